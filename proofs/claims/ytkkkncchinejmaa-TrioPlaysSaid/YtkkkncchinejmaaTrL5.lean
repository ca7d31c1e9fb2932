/- TrioMends, walked. -/
import Derived.Test.YtkkkncchinejmaaTrL4
namespace Go.Proofs.Ytkkkncchinejmaa.TrL
open Go Go.RowKit Go.Proofs.Ytkkkncchinejmaa Go.Proofs.Ytkkkncchinejmaa.Sp Go.Proofs.Ytkkkncchinejmaa.Reg Go.Proofs.Ytkkkncchinejmaa.SlW Go.Proofs.Ytkkkncchinejmaa.Fus Go.Proofs.Ytkkkncchinejmaa.TrM Go.Proofs.Ytkkkncchinejmaa.TapW Go.Proofs.Ytkkkncchinejmaa.TrW Go.Proofs.Ytkkkncchinejmaa.Str
/-- One tape failed (f below 3), the others are alike. -/
def fam (f : Nat) (c d : List UInt8) : List Tp := [if f = 0 then ft d true else ft c false, if f = 1 then ft d true else ft c false, if f = 2 then ft d true else ft c false]
theorem fam_len (f : Nat) (c d : List UInt8) : (fam f c d).length = 3 := rfl
theorem fam_app (f : Nat) (c d : List UInt8) (n : Nat) (r : List UInt8) (h : okr r) (hf : f ≤ 3) (hl : c.length + (r.length + 1) ≤ 65536) : trApp none (fam f c d) n r = (0, none, fam f (c ++ jn1 r) d, n + 1) := by
  obtain ⟨h1, h2⟩ := h
  have e1 : ¬ (r.length < 1 ∨ 250 < r.length) := by omega
  have e4 : tApp none (ft c false) (jn1 r) = (0, none, ⟨c ++ jn1 r, (jn1 r).length, false⟩) := by simp [tApp, ft, fdead, fspend, jn1_len]; omega
  have e7 : ∀ x, tSync none ⟨x, (jn1 r).length, false⟩ = (0, ft x false) := fun x => by simp [tSync, fdead, ft]
  have e8 : ¬ 65536 < c.length + (r.length + 1) := by omega
  obtain rfl | rfl | rfl | rfl : f = 0 ∨ f = 1 ∨ f = 2 ∨ f = 3 := by omega
  · have e2 : lvi (fam 0 c d) = [1, 2] := rfl
    unfold trApp
    rw [if_neg e1, e2, if_neg (by simp), if_neg (by simp [fullK, fam, ft]; omega)]
    simp [apK, syK, fam, e4, e7, bd]
  · have e2 : lvi (fam 1 c d) = [0, 2] := rfl
    unfold trApp
    rw [if_neg e1, e2, if_neg (by simp), if_neg (by simp [fullK, fam, ft]; omega)]
    simp [apK, syK, fam, e4, e7, bd]
  · have e2 : lvi (fam 2 c d) = [0, 1] := rfl
    unfold trApp
    rw [if_neg e1, e2, if_neg (by simp), if_neg (by simp [fullK, fam, ft]; omega)]
    simp [apK, syK, fam, e4, e7, bd]
  · have e2 : lvi (fam 3 c d) = [0, 1, 2] := rfl
    unfold trApp
    rw [if_neg e1, e2, if_neg (by simp), if_neg (by simp [fullK, fam, ft]; omega)]
    simp [apK, syK, fam, e4, e7, bd]
/-- The records that may be. -/
def flt (l : List (List UInt8)) : List (List UInt8) := l.filter fun r => decide (1 ≤ r.length ∧ r.length ≤ 250)
theorem flt_ok (l : List (List UInt8)) : ∀ r ∈ flt l, okr r := fun r hr => by
  have := (List.mem_filter.1 hr).2
  simpa [okr] using this
theorem flt_len (l : List (List UInt8)) : (flt l).length ≤ l.length := List.length_filter_le _ _
theorem jn_len_max : ∀ (l : List (List UInt8)), (∀ r ∈ l, okr r) → (jn l).length ≤ 251 * l.length
  | [], _ => Nat.le_refl _
  | r :: l, h => by
    have := jn_len_max l (fun x hx => h x (by simp [hx]))
    have h2 := (h r (by simp)).2
    rw [jn_cons, List.length_append, jn1_len, List.length_cons]
    omega
theorem flt_succ (l : List (List UInt8)) (k : Nat) (hk : k < l.length) : flt (l.take (k + 1)) = flt (l.take k) ++ if 1 ≤ l[k].length ∧ l[k].length ≤ 250 then [l[k]] else [] := by
  unfold flt
  rw [List.take_succ_eq_append_getElem hk, List.filter_append]
  congr 1
  by_cases h : 1 ≤ l[k].length ∧ l[k].length ≤ 250 <;> simp [h]
/-- Where the closure stands: the trio's variable, the wanted ones'. -/
def PX (bt bw b : Nat) (wv : Value) (want : List (List UInt8)) (Y : HP) : HP := pts bt (.cells #[pp b] 37 (0, 0)) * (pts bw (.cells #[wv] 24 (0, 0)) * (row 9 1 wv want.length (sv want) * Y))
def WJ (B : Nat) (w0 : World) (bt bw b : Nat) (wv : Value) (want : List (List UInt8)) (r : List UInt8) (Y : HP) (j : Nat) (vs : Nat → Value) (w : World) : Prop := match j with
  | 0 => St B w0 w (PX bt bw b wv want Y)
  | 1 => ∃ g, vs 0 = .slice (some ⟨g, 0, none⟩) 1 1 ∧ St B w0 w (pts g (.cells #[str r] 9 (0, 0)) * PX bt bw b wv want Y)
  | 2 => ∃ v, vs 1 = v ∧ v.oneCell' = true ∧ St B w0 w (pts bt (.cells #[pp b] 37 (0, 0)) * (pts bw (.cells #[wv] 24 (0, 0)) * (row 9 1 v (want ++ [r]).length (sv (want ++ [r])) * Y)))
  | _ => ∃ v, St B w0 w (PX bt bw b v (want ++ [r]) Y)
section
variable {B : Nat} {w0 : World} {R : HP}
theorem WJ.below {bt bw b : Nat} {wv : Value} {want : List (List UInt8)} {r : List UInt8} {Y : HP} : ∀ {j : Nat} {vs : Nat → Value} {w : World}, WJ B w0 bt bw b wv want r Y j vs w → Below B w0 w
  | 0, _, _, h => St.below h
  | 1, _, _, ⟨_, _, h⟩ => h.below
  | 2, _, _, ⟨_, _, _, h⟩ => h.below
  | _ + 3, _, _, ⟨_, h⟩ => h.below
theorem WJ.load {bt bw b : Nat} {wv : Value} {want : List (List UInt8)} {r : List UInt8} {Y : HP} : ∀ {j : Nat} {vs : Nat → Value} {w : World}, j ≤ 2 → WJ B w0 bt bw b wv want r Y j vs w → w.cell? ⟨bw, 0, none⟩ = some wv
  | 0, _, _, _, h => (St.right h).cell 0
  | 1, _, _, _, ⟨_, _, h⟩ => h.right.right.cell 0
  | 2, _, _, _, ⟨_, _, _, h⟩ => h.right.cell 0
set_option maxRecDepth 100000 in
set_option maxHeartbeats 16000000 in
/-- The closure: the records that may be are put. -/
theorem put_calls (f : Nat) (hf : f ≤ 3) (c0 d : List UInt8) (want0 : List (List UInt8)) (n0 bt bw b p0 p1 p2 : Nat) (wv0 : Value) (A : Option Addr) (cA : Nat) (rs : List (List UInt8)) (W w : World) (hB : B = W.heap.size) (hw0 : w0 = W)
    (hrs : BSS W (.slice A rs.length cA) rs) (h8 : rs.length ≤ 8) (hc0 : c0.length ≤ 10000) (hn0 : n0 ≤ 1000) (hw8 : want0.length ≤ 1000)
    (s : St B w0 w (PX bt bw b wv0 want0 (trx b none [p0, p1, p2] n0 (fam f c0 d) none * R))) :
    Calls Try.prog 25 #[.slice A rs.length cA, .pointer (some ⟨bt, 0, none⟩), .pointer (some ⟨bw, 0, none⟩)] w fun e w' => ∃ wv, e = .returned (.bool true) ∧
      St B w0 w' (PX bt bw b wv (want0 ++ flt rs) (trx b none [p0, p1, p2] (n0 + (flt rs).length) (fam f (c0 ++ jn (flt rs)) d) none * R)) := by
  subst hB
  subst hw0
  have hcA := hrs.open'.2.1
  have hcM := hrs.open'.2.2.1
  unfold maxLen at hcM
  have Hrs := Lib.hid hrs
  have S := Lib.hid s
  clear hrs s
  go_enter Try.func25, Try.ntmps25
  go_wp2_with fail
  go_loopw [5] (fun i wr => ∃ (k : Nat) (wv : Value), k ≤ rs.length ∧ i = .int .i64 k ∧ St w0.heap.size w0 wr (PX bt bw b wv (want0 ++ flt (rs.take k)) (trx b none [p0, p1, p2] (n0 + (flt (rs.take k)).length) (fam f (c0 ++ jn (flt (rs.take k))) d) none * R))) (fun i _ => rs.length - (intOf i).toNat)
  case atStart => exact ⟨0, wv0, Nat.zero_le _, rfl, by simpa [flt, jn] using S.out⟩
  case round =>
    obtain ⟨k, wv, hk, rfl, s1⟩ := hrel
    clear S
    by_cases hlt : k < rs.length
    · obtain ⟨-, -, -, -, us, hr, hlv, hbu⟩ := Hrs.out.open'
      obtain ⟨u, hu, hbu⟩ := hbu k hlt
      obtain ⟨ar, cr, rfl, -⟩ := id hbu
      obtain ⟨b1, o1, rfl, hc⟩ := hr.at (by rintro rfl; rw [List.length_nil] at hlv; omega)
      have hc0' := hc k _ hu
      have hcl : ∀ w, Below w0.heap.size w0 w → w.cell? ⟨b1, o1 + k, none⟩ = some (.slice ar rs[k].length cr) := fun w h => Add.cell h hc0'
      have hbs : ∀ w, Below w0.heap.size w0 w → BS w (.slice ar rs[k].length cr) rs[k] := fun w h => hbu.below h
      have hcw := hcl wr s1.below
      have hrm : (rs[k].length : Int) ≤ 9223372036854775807 := by have := hbu.rd.2; unfold maxLen at this; omega
      have hsu := flt_succ rs k hlt
      have hfl := flt_len (rs.take k)
      have hfj := jn_len_max _ (flt_ok (rs.take k))
      rw [List.length_take] at hfl
      generalize flt (rs.take k) = L at *
      generalize rs[k] = r at *
      have t1 : (k : Int) < (rs.length : Int) := by omega
      have Hcl := Lib.hid hcl
      have Hbs := Lib.hid hbs
      clear hcl hbs
      clear hr hlv hbu hc hu hc0'
      by_cases hr3 : 1 ≤ r.length ∧ r.length ≤ 250
      · rw [if_pos hr3] at hsu
        have hok : okr r := hr3
        have h1 : ((r.length : Int) == 0) = false := by rw [beq_eq_false_iff_ne]; omega
        have h2 : ¬ (250 : Int) < (r.length : Int) := by omega
        have hap := fam_app f (c0 ++ jn L) d (n0 + L.length) r hok hf (by rw [List.length_append]; omega)
        have e1 : c0 ++ jn L ++ jn1 r = c0 ++ jn (L ++ [r]) := by rw [jn_append, jn_one, List.append_assoc]
        have e2 : n0 + L.length + 1 = n0 + (L ++ [r]).length := by simp; omega
        rw [e1, e2] at hap
        have hca := fun (w : World) (s : St w0.heap.size w0 w (PX bt bw b wv (want0 ++ L) (trx b none [p0, p1, p2] (n0 + L.length) (fam f (c0 ++ jn L) d) none * R))) =>
          (tappend_calls none (fam f (c0 ++ jn L) d) (n0 + L.length) r b p0 p1 p2 none ar cr rfl (by omega) (by omega) w (R := PX bt bw b wv (want0 ++ L) R) (reads_arg _ (Hbs.out w0 (Below.refl _ _))) (s.eq (by unfold PX; ac_rfl))).mono fun e w' h => by
            rw [hap] at h
            exact (show e = .returned (.int .i64 0) ∧ St w0.heap.size w0 w' (PX bt bw b wv (want0 ++ L) (trx b none [p0, p1, p2] (n0 + (L ++ [r]).length) (fam f (c0 ++ jn (L ++ [r])) d) none * R)) from ⟨h.1, h.2.eq (by unfold PX; ac_rfl)⟩)
        have hbt := fun (w : World) (Y : HP) (s : St w0.heap.size w0 w (PX bt bw b wv (want0 ++ L) Y)) => (St.cell s 0 : w.cell? ⟨bt, 0, none⟩ = some (pp b))
        have S1 := Lib.hid s1
        have Hca := Lib.hid hca
        have Hbt := Lib.hid hbt
        have Hsu := Lib.hid hsu
        clear hca hbt hsu
        clear hr3 hok hap e1 e2 s1
        go_wp2_with fail
        refine wp_region_rx (fun j w => St w0.heap.size w0 w (PX bt bw b wv (want0 ++ L) (trx b none [p0, p1, p2] (if j = 0 then n0 + L.length else n0 + (L ++ [r]).length) (fam f (if j = 0 then c0 ++ jn L else c0 ++ jn (L ++ [r])) d) none * R))) [5] mixed (by kernel_rfl) (by kernel_rfl) S1.out.drew ?_
        refine RXl.exact (pp b) rfl rfl rfl rfl rfl (fun j τ w' hj hJ => by have c := Hbt.out _ _ hJ; simp [rho, upd, Spec.val, execOp, go_sem, c]) ?_
        refine RXl.exact (.slice (some ⟨b1, o1, none⟩) rs.length cA) rfl rfl rfl rfl rfl (fun _ _ _ _ _ => rfl) ?_
        refine RXl.exact (.int .i64 k) rfl rfl rfl rfl rfl (fun _ _ _ _ _ => rfl) ?_
        refine RXl.exact (.pointer (some ⟨b1, o1 + k, none⟩)) rfl rfl rfl rfl rfl (fun j τ w' hj hJ => by simp [rho, upd, Spec.val, execOp, go_sem, t1]) ?_
        refine RXl.exact (.slice ar r.length cr) rfl rfl rfl rfl rfl (fun j τ w' hj hJ => by have c := Hcl.out _ (St.below hJ); simp [rho, upd, Spec.val, execOp, go_sem, c]) ?_
        refine RXl.callj 0 (.int .i64 0) _ [pp b, .slice ar r.length cr] [.tmp 26, .tmp 30] _ rfl rfl rfl rfl rfl rfl (fun _ => rfl) (fun w' hJ => Hca.out w' hJ) ?_
        refine RXl.exact (.bool false) rfl rfl rfl rfl rfl (fun j τ w' hj hJ => by simp [rho, upd, Spec.val, execOp, go_sem]) ?_
        refine RXl.nilx _ (Agr.upd _ _ (Agr.upd _ _ (Agr.upd _ _ (Agr.upd _ _ (Agr.upd _ _ (Agr.upd _ _ (Agr.upd _ _ (Agr.base _)))))))) fun w8 hJ => ?_
        obtain ⟨_, hJ⟩ := hJ
        simp only [Act.put, List.setIfInBounds_toArray, List.set_cons_succ, List.set_cons_zero]
        have S2 := Lib.hid (show St w0.heap.size w0 w8 (PX bt bw b wv (want0 ++ L) (trx b none [p0, p1, p2] (n0 + (L ++ [r]).length) (fam f (c0 ++ jn (L ++ [r])) d) none * R)) from hJ)
        clear hJ S1 Hca Hbt
        generalize hY : trx b none [p0, p1, p2] (n0 + (L ++ [r]).length) (fam f (c0 ++ jn (L ++ [r])) d) none * R = Y at *
        have HY := Lib.hid hY
        clear hY
        have hln : (want0 ++ L).length ≤ 1008 := by rw [List.length_append]; omega
        have hWs : want0 ++ (L ++ [r]) = want0 ++ L ++ [r] := (List.append_assoc _ _ _).symm
        have HWs := Lib.hid hWs
        clear hWs
        generalize want0 ++ L = Wn at *
        go_wp2_with fail
        refine wp_region_rv [39, 40] (WJ w0.heap.size w0 bt bw b wv Wn r Y) [6, 7, 8] mixed (by kernel_rfl) (by kernel_rfl) rfl (fun _ => S2.out.drew) ?_
        refine RXl.exactB 2 8 rfl (by kernel_rfl) (wv) rfl rfl rfl rfl rfl (fun j τ w' hj hJ => (by obtain ⟨vs, hv, hJ⟩ := hJ; exact ((by have c := WJ.load hj hJ; simp [rho, upd, Spec.val, execOp, go_sem, c])))) ?_
        refine RXl.exact (.slice (some ⟨b1, o1, none⟩) rs.length cA) rfl rfl rfl rfl rfl (fun _ _ _ _ _ => rfl) ?_
        refine RXl.exact (.int .i64 k) rfl rfl rfl rfl rfl (fun _ _ _ _ _ => rfl) ?_
        refine RXl.exact (.pointer (some ⟨b1, o1 + k, none⟩)) rfl rfl rfl rfl rfl (fun j τ w' hj hJ => (by obtain ⟨vs, hv, hJ⟩ := hJ; exact (by simp [rho, upd, Spec.val, execOp, go_sem, t1]))) ?_
        refine RXl.exact (.slice ar r.length cr) rfl rfl rfl rfl rfl (fun j τ w' hj hJ => (by obtain ⟨vs, hv, hJ⟩ := hJ; exact (by have c := Hcl.out _ hJ.below; simp [rho, upd, Spec.val, execOp, go_sem, c]))) ?_
        refine RXl.exact (str r) rfl rfl rfl rfl rfl (fun j τ w' hj hJ => (by obtain ⟨vs, hv, hJ⟩ := hJ; exact (exec_convert rfl (run_str Try.underlying23 Try.underlying5 Try.underlying9 (Hbs.out _ hJ.below))))) ?_
        refine RXl.effV 0 39 rfl rfl rfl (Nat.le_of_ble_eq_true rfl) rfl rfl rfl rfl (fun ρ vs w _ hJ hag => by have e38 := hag.ex 38 _ rfl rfl rfl; exact ⟨.slice (some ⟨w.heap.size, 0, none⟩) 1 1, w.alloc (.cells #[str r] 9), by simp [execOp, e38, go_sem], w.heap.size, by simp [updv], St.alloc hJ _⟩) ?_
        refine RXl.effV 1 40 rfl rfl rfl (Nat.le_of_ble_eq_true rfl) rfl rfl rfl rfl (fun ρ vs w hv hJ hag => by obtain ⟨g, e, s⟩ := hJ; have e39 := (hv 0 39 (by decide) rfl).trans e; have e33 := hag.ex 33 _ rfl rfl rfl; have s2 := s.eq (Q := row 9 1 wv Wn.length (sv Wn) * (pts g (.cells #[str r] 9 (0, 0)) * (pts bt (.cells #[pp b] 37 (0, 0)) * (pts bw (.cells #[wv] 24 (0, 0)) * Y)))) (by unfold PX; ac_rfl); have hrd : Rd w (some ⟨g, 0, none⟩) [str r] := s.rd 0 1; obtain ⟨v', w', hr, s3, -⟩ := run_append_st (P := Try.prog) tSS 24 s2 (some ⟨g, 0, none⟩) 1 1 [str r] hrd (fun e => by cases e) rfl (by simp [Value.oneCell']) (by unfold maxLen; omega) (by omega); obtain ⟨a2, c2, rfl, -⟩ := s3.rowSlice; exact ⟨.slice a2 (Wn.length + 1) c2, w', by simp [execOp, resolve, invoke, builtin, e33, e39, hr, Result.andThen], .slice a2 (Wn.length + 1) c2, by simp [updv], rfl, by rw [show sv (Wn ++ [r]) = sv Wn ++ [str r] by simp [sv], List.length_append]; exact ((s3.eq (sep_left_comm _ _ _)).right).eq (by ac_rfl)⟩) ?_
        refine RXl.effS 2 rfl rfl rfl rfl rfl rfl (fun ρ vs w hv hJ hag => by obtain ⟨v, e, h1, s⟩ := hJ; have e40 := (hv 1 40 (by decide) rfl).trans e; exact ⟨_, exec_store rfl (hag.ex 2 _ rfl rfl rfl) e40 h1 (by kernel_rfl) (s.right.cell 0) (s.right.free 0), v, (((s.eq (sep_left_comm _ _ _)).set 0 v).eq (by unfold PX; exact sep_left_comm _ _ _))⟩) ?_
        refine RXl.nilV _ (AgrL.unk 40 _ rfl (AgrL.unk 39 _ rfl (AgrL.upd _ _ (AgrL.upd _ _ (AgrL.upd _ _ (AgrL.upd _ _ (AgrL.upd _ _ (AgrL.upd _ _ (AgrL.base _))))))))) (by decide) (by decide) fun vs w9 hJ => ?_
        simp only [puts, Act.put, List.setIfInBounds_toArray, List.set_cons_succ, List.set_cons_zero]
        obtain ⟨v9, s9⟩ := hJ
        have S9 := Lib.hid s9
        clear s9 S2
        go_wp2_with fail
        go_roundw
        case rel =>
          refine ⟨k + 1, v9, by omega, by go_num, ?_⟩
          rw [Hsu.out, HWs.out, HY.out]
          exact S9.out
        case measure => simp [intOf]; omega
      · rw [if_neg hr3, List.append_nil] at hsu
        have S1 := Lib.hid s1
        have h1 : ((r.length : Int) == 0) = true ∨ ((r.length : Int) == 0) = false ∧ (250 : Int) < (r.length : Int) := by
          by_cases h : r.length = 0
          · exact .inl (by rw [beq_iff_eq]; omega)
          · exact .inr ⟨by rw [beq_eq_false_iff_ne]; omega, by omega⟩
        have Hsu := Lib.hid hsu
        clear hsu
        clear s1 hr3
        rcases h1 with h1 | ⟨h1, h2⟩
        all_goals
          go_wp2_with fail
          go_roundw
          case rel => exact ⟨k + 1, wv, by omega, by go_num, by rw [Hsu.out]; exact S1.out⟩
          case measure => simp [intOf]; omega
    · obtain rfl : k = rs.length := by omega
      rw [List.take_length] at s1
      have S1 := Lib.hid s1
      clear s1
      go_wp2_with fail
      go_ret
      exact ⟨wv, rfl, S1.out⟩
end
end Go.Proofs.Ytkkkncchinejmaa.TrL
