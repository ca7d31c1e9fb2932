/- Codes: parity, walked. No condition. -/
import Derived.Test.YtjnfhppjkadlpaaCdB
import Derived.Test.YtjnfhppjkadlpaaMgB
set_option linter.unusedSimpArgs false
set_option linter.unusedVariables false
namespace Go.Proofs.Ytjnfhppjkadlpaa.Cd
open Go Go.RowKit Go.Proofs.Ytjnfhppjkadlpaa Go.Proofs.Ytjnfhppjkadlpaa.Sp Go.Proofs.Ytjnfhppjkadlpaa.Reg Go.Proofs.Ytjnfhppjkadlpaa.Rd Go.Proofs.Ytjnfhppjkadlpaa.Obr Go.Proofs.Ytjnfhppjkadlpaa.Gf Go.Proofs.Ytjnfhppjkadlpaa.Mt
/-- Sums under way: those of the first i everywhere, the i-th one's up to q. -/
def sg (F : Nat → Nat → UInt8) (i q x : Nat) : UInt8 := if x < q then sm (i + 1) (fun k => F k x) else sm i (fun k => F k x)
theorem sg_step (F : Nat → Nat → UInt8) (i q x : Nat) : (if x = q then sg F i q q ^^^ F i q else sg F i q x) = sg F i (q + 1) x := by
  unfold sg
  by_cases e : x = q
  · subst e
    rw [if_pos rfl, if_neg (Nat.lt_irrefl _), if_pos (by omega)]
    rfl
  · rw [if_neg e]
    by_cases h : x < q
    · rw [if_pos h, if_pos (by omega)]
    · rw [if_neg h, if_neg (by omega)]
theorem sg_next (F : Nat → Nat → UInt8) (i n x : Nat) (h : x < n) : sg F i n x = sg F (i + 1) 0 x := by
  unfold sg
  rw [if_pos h, if_neg (Nat.not_lt_zero _)]
theorem sg_zero (F : Nat → Nat → UInt8) (x : Nat) : sg F 0 0 x = 0 := rfl
theorem sg_end (F : Nat → Nat → UInt8) (k x : Nat) : sg F k 0 x = sm k fun i => F i x := if_neg (Nat.not_lt_zero _)
section
variable {B : Nat} {w0 : World} {R : HP}
theorem cd_fb {p fb : Nat} {xs ys : List UInt8} {w : World} (s : St B w0 w (cd p fb xs ys * R)) : w.cell? ⟨p, 0, none⟩ = some (pp fb) := by
  obtain ⟨a1, c1, a2, c2, s1⟩ := cd_open s
  exact (cdo_cells s1).1
/-- A new row of bytes is handed back. -/
def RetN (B : Nat) (w0 : World) (H : HP) (bs : List UInt8) (e : Ending) (w' : World) : Prop := ∃ g, e = .returned (.slice (some ⟨g, 0, none⟩) bs.length bs.length) ∧ St B w0 w' (row 5 1 (.slice (some ⟨g, 0, none⟩) bs.length bs.length) bs.length (bvs bs) * H)
set_option maxRecDepth 100000 in
set_option maxHeartbeats 8000000 in
theorem parity_calls (p fb : Nat) (xs ys : List UInt8) (m n : Nat) (v : Value) (d : List (List UInt8)) (hm : m < ys.length) (hk : d.length = xs.length) (hx : xs.length ≤ 1000) (hn : n ≤ 1000000) (hd : ∀ i (h : i < d.length), d[i].length = n) (w : World)
    (hr : BRd B w0 R v d) (s : St B w0 w (fx fb * (cd p fb xs ys * R))) :
    Calls Try.prog 49 #[pp p, .int .i64 (m : Int), .int .i64 (n : Int), v] w (RetN B w0 (fx fb * (cd p fb xs ys * R)) (par xs ys m n d)) := by
  obtain ⟨A, c, vs, rfl, hvl, hlc, hcm, hnil, hA, hu⟩ := hr
  obtain ⟨F, hF⟩ : ∃ F : Nat → Nat → UInt8, F = fun i q => gmul (cf xs ys m i) ((d.getD i []).getD q 0) := ⟨_, rfl⟩
  have HP := Lib.hid (show ∀ g, br g n (sg F d.length 0) = row 5 1 (.slice (some ⟨g, 0, none⟩) (par xs ys m n d).length (par xs ys m n d).length) (par xs ys m n d).length (bvs (par xs ys m n d)) from fun g => by
    rw [par_len]
    unfold br par
    rw [List.map_congr_left (g := pr1 xs ys d m) fun q _ => by rw [sg_end, hF, hk]; rfl])
  have HF := Lib.hid hF
  clear hF
  obtain ⟨dl, hdl⟩ : ∃ dl, d.length = dl := ⟨_, rfl⟩
  have HA := Lib.hid hA
  have HU := Lib.hid hu
  have HD := Lib.hid hd
  have HV := Lib.hid hvl
  clear hA hu hd hvl
  rw [hdl] at hk hlc HP ⊢
  have HL := Lib.hid hdl
  clear hdl
  have hdl : dl ≤ 1000 := by omega
  have HK := Lib.hid hk
  clear hk
  have S := Lib.hid s
  clear s
  go_enter Try.func49, Try.ntmps49
  go_wp2_with (at_make; go_must (refine wpl_make1 rfl _ _ rfl tB rfl S.out .i64 .i64 n n rfl rfl (Nat.le_refl _) (by unfold maxLen; omega) (by omega) ?_); intro g w1 s1; have S1 := Lib.hid ((br_made s1).eq (show br g n (fun _ => 0) * (fx fb * (cd p fb xs ys * R)) = br g n (sg F 0 0) * (fx fb * (cd p fb xs ys * R)) from by rw [br_congr fun q _ => (sg_zero F q).symm])); clear s1 S)
  go_loopw [19] (fun i wr => ∃ k : Nat, k ≤ dl ∧ i = .int .i64 (k : Int) ∧ St B w0 wr (br g n (sg F k 0) * (fx fb * (cd p fb xs ys * R)))) (fun i _ => dl - (intOf i).toNat)
  case atStart => exact ⟨0, Nat.zero_le _, rfl, S1.out⟩
  case round =>
    obtain ⟨k, hkl, rfl, s2⟩ := hrel
    clear S1
    by_cases hlt : k < dl
    · have hltI : (k : Int) < (dl : Int) := by omega
      have hkd : k < d.length := by rw [HL.out]; exact hlt
      obtain ⟨u, hu1, hu2⟩ := HU.out k hkd
      obtain ⟨b0, o0, rfl, hc0⟩ := (HA.out wr (br g n (sg F k 0) * (fx fb * cd p fb xs ys)) (s2.eq (by ac_rfl))).at (by rintro rfl; simp at hu1)
      have c0 := hc0 k u hu1
      have hb0 := hu2 wr (br g n (sg F k 0) * (fx fb * cd p fb xs ys)) (s2.eq (by ac_rfl))
      have hlen : d[k].length = n := HD.out k hkd
      obtain ⟨a5, c5, rfl, -⟩ := id hb0
      rw [hlen] at c0 hu2
      have HR := Lib.hid hu2
      clear hc0 hb0 hu1 hu2
      have HFk := Lib.hid (show ∀ q, F k q = gmul (cf xs ys m k) (d[k].getD q 0) from fun q => by rw [HF.out]; simp only [List.getD, List.getElem?_eq_getElem hkd, Option.getD_some])
      generalize d[k] = dk at *
      have HN := Lib.hid hlen
      have S2 := Lib.hid s2
      clear s2
      clear hlen
      go_wp2_with fail
      refine (coef_in p fb xs ys m k hm (by have := HK.out; have := HL.out; omega) wr (S2.out.eq (Q := fx fb * (cd p fb xs ys * (br g n (sg F k 0) * R))) (by ac_rfl))).mono ?_
      rintro e w2 ⟨rfl, s3⟩
      have S3 := Lib.hid (s3.eq (Q := br g n (sg F k 0) * (fx fb * (cd p fb xs ys * R))) (by ac_rfl))
      clear S2 s3
      generalize cf xs ys m k = by_ at *
      go_wp2_with fail
      go_loopw [30] (fun i wr2 => ∃ q : Nat, q ≤ n ∧ i = .int .i64 (q : Int) ∧ St B w0 wr2 (br g n (sg F k q) * (fx fb * (cd p fb xs ys * R)))) (fun i _ => n - (intOf i).toNat)
      case atStart => exact ⟨0, Nat.zero_le _, rfl, S3.out⟩
      case round =>
        obtain ⟨q, hq, rfl, s4⟩ := hrel
        clear S3
        by_cases hqn : q < n
        · have hqI : (q : Int) < (n : Int) := by omega
          have hb4 := HR.out _ (br g n (sg F k q) * (fx fb * cd p fb xs ys)) (s4.eq (by ac_rfl))
          obtain ⟨b6, o6, rfl⟩ := hb4.head (by rw [HN.out]; omega)
          have c4 := hb4.cellAt q (by rw [HN.out]; exact hqn)
          have HFq := HFk.out q
          rw [show dk.getD q 0 = dk[q]'(by rw [HN.out]; exact hqn) from by simp [List.getD, HN.out, hqn]] at HFq
          have HFq := Lib.hid HFq
          generalize dk[q]'(by rw [HN.out]; exact hqn) = x at *
          have HX := Lib.hid (bits_xor_u8' (sg F k q q) (gmul by_ x))
          have HS := Lib.hid (sg_step F k q)
          rw [HFq.out] at HS
          clear hb4 HFq
          have S4 := Lib.hid s4
          clear s4
          go_wp2_with fail
          refine wp_region_rx (fun pp_ w' => St B w0 w' (br g n (sg F k (if pp_ = 0 then q else q + 1)) * (fx fb * (cd p fb xs ys * R)))) [13] Gf.mixed (by kernel_rfl) (by kernel_rfl) S4.out.drew ?_
          refine RXl.exact (.slice (some ⟨g, 0, none⟩) n n) rfl rfl rfl rfl rfl (fun _ _ _ _ _ => rfl) ?_
          refine RXl.exact (.int .i64 (q : Int)) rfl rfl rfl rfl rfl (fun _ _ _ _ _ => rfl) ?_
          refine RXl.exact (.pointer (some ⟨g, q, none⟩)) rfl rfl rfl rfl rfl (fun j τ w' hj hJ => by have t1 : (q : Int) < (n : Int) := (by omega); simp [rho, upd, Spec.val, execOp, go_sem, t1]) ?_
          refine RXl.exactB 0 13 rfl (by kernel_rfl) (bv (sg F k q q)) rfl rfl rfl rfl rfl (fun j τ w' hj hJ => by obtain rfl : j = 0 := (by omega); have c := br_at hJ hqn; rw [if_pos rfl] at c; simp [rho, upd, Spec.val, execOp, go_sem, c]) ?_
          refine RXl.exact (.pointer (some ⟨p, 0, none⟩)) rfl rfl rfl rfl rfl (fun _ _ _ _ _ => rfl) ?_
          refine RXl.exact (.pointer (some ⟨p, 0, none⟩)) rfl rfl rfl rfl rfl (fun j τ w' hj hJ => by simp [rho, upd, Spec.val, execOp, go_sem]) ?_
          refine RXl.exact (.pointer (some ⟨p, 0, none⟩)) rfl rfl rfl rfl rfl (fun j τ w' hj hJ => by simp [rho, upd, Spec.val, execOp, go_sem]) ?_
          refine RXl.exactB 0 13 rfl (by kernel_rfl) (.pointer (some ⟨fb, 0, none⟩)) rfl rfl rfl rfl rfl (fun j τ w' hj hJ => by have c := cd_fb (St.eq (Q := cd p fb xs ys * (br g n (sg F k (if j = 0 then q else q + 1)) * (fx fb * R))) (by ac_rfl) hJ); simp [rho, upd, Spec.val, execOp, go_sem, c]) ?_
          refine RXl.exact (bv by_) rfl rfl rfl rfl rfl (fun _ _ _ _ _ => rfl) ?_
          refine RXl.exact (bv x) rfl rfl rfl rfl rfl (fun _ _ _ _ _ => rfl) ?_
          refine RXl.callr (bv (gmul by_ x)) _ [.pointer (some ⟨fb, 0, none⟩), bv by_, bv x] [.tmp 42, .tmp 43, .tmp 44] _ rfl rfl rfl rfl rfl rfl (fun _ => rfl) (fun j τ w' hj hJ => (mulx fb by_ x w' (St.eq (Q := fx fb * (br g n (sg F k (if j = 0 then q else q + 1)) * (cd p fb xs ys * R))) (by ac_rfl) hJ)).mono fun _ _ h => ⟨h.1, h.2.eq (by ac_rfl)⟩) ?_
          refine RXl.exact (bv (sg F k q q ^^^ gmul by_ x)) rfl rfl rfl rfl rfl (fun j τ w' hj hJ => by have c := HX.out; simp [rho, upd, Spec.val, execOp, go_sem, c]) ?_
          refine RXl.exact (.pointer (some ⟨g, q, none⟩)) rfl rfl rfl rfl rfl (fun j τ w' hj hJ => by have t1 : (q : Int) < (n : Int) := (by omega); simp [rho, upd, Spec.val, execOp, go_sem, t1]) ?_
          refine RXl.effj 0 rfl rfl rfl rfl rfl rfl (fun w' hJ => (let h := br_set hJ hqn (sg F k q q ^^^ gmul by_ x); ⟨_, exec_store rfl rfl rfl rfl (by kernel_rfl) (br_at hJ hqn) h.1, by have q2 := h.2; rw [if_pos rfl, br_congr (fun z _ => HS.out z)] at q2; exact q2⟩)) ?_
          refine RXl.nilx _ (Agr.upd _ _ (Agr.upd _ _ (Agr.upd _ _ (Agr.upd _ _ (Agr.upd _ _ (Agr.upd _ _ (Agr.upd _ _ (Agr.upd _ _ (Agr.upd _ _ (Agr.upd _ _ (Agr.upd _ _ (Agr.upd _ _ (Agr.upd _ _ (Agr.base _)))))))))))))) fun w8 hJ => ?_
          obtain ⟨_, hJ⟩ := hJ
          simp only [Act.put, List.setIfInBounds_toArray, List.set_cons_succ, List.set_cons_zero]
          have S9 := Lib.hid (show St B w0 w8 (br g n (sg F k (q + 1)) * (fx fb * (cd p fb xs ys * R))) from hJ)
          clear hJ S4 HS HX c4
          go_wp2_with fail
          go_roundw
          case rel => exact ⟨q + 1, by omega, by go_num, S9.out⟩
          case measure => simp [intOf]; omega
        · obtain rfl : q = n := by omega
          have S9 := Lib.hid (show St B w0 _ (br g q (sg F (k + 1) 0) * (fx fb * (cd p fb xs ys * R))) from by rw [← br_congr (sg_next F k q)]; exact s4)
          clear s4
          go_wp2_with fail
          go_roundw
          case rel => exact ⟨k + 1, by omega, by go_num, S9.out⟩
          case measure => simp [intOf]; omega
    · obtain rfl : k = dl := by omega
      rw [HP.out g] at s2
      have S2 := Lib.hid s2
      clear s2
      go_wp2_with fail
      go_ret
      exact ⟨g, by rw [par_len]; rfl, S2.out⟩
end
end Go.Proofs.Ytjnfhppjkadlpaa.Cd
