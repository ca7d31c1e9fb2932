/- mat's Pick, walked. -/
import Derived.Test.YtfhphbpgiickfaaMtW6
import Derived.Test.YtfhphbpgiickfaaIs
import Derived.Test.YtfhphbpgiickfaaRey
import Derived.Test.YtfhphbpgiickfaaRws
namespace Go.Proofs.Ytfhphbpgiickfaa.Mt
open Go Go.RowKit Go.Proofs.Ytfhphbpgiickfaa Go.Proofs.Ytfhphbpgiickfaa.Sp Go.Proofs.Ytfhphbpgiickfaa.Reg Go.Proofs.Ytfhphbpgiickfaa.Rd Go.Proofs.Ytfhphbpgiickfaa.Gf
def badR (r : Nat) (i : Int) : Bool := decide (i < 0 ∨ (r : Int) ≤ i)
section
variable {B : Nat} {w0 : World} {R : HP}
theorem clo_calls (bm b g cap fb r c : Nat) (f : Mx) (i : Int) (w : World) (s : St B w0 w (pts bm (.cells #[.pointer (some ⟨b, 0, none⟩)] 42) * (mo b g cap fb r c f * R))) :
    Calls Try.prog 50 #[.int .i64 i, .pointer (some ⟨bm, 0, none⟩)] w (RetG B w0 (pts bm (.cells #[.pointer (some ⟨b, 0, none⟩)] 42) * (mo b g cap fb r c f * R)) (.bool (badR r i))) := by
  have c0 := s.cell 0
  simp at c0
  obtain ⟨-, c1, -, -⟩ := mo_cells (s.eq (sep_left_comm _ _ _))
  have S := Lib.hid s
  clear s
  by_cases h1 : i < 0
  · rw [show badR r i = true from decide_eq_true (.inl h1)]
    have k1 : decide (i < 0) = true := by simpa using h1
    clear h1
    go_enter Try.func50, Try.ntmps50
    go_wp2_with fail
    go_ret
    exact ⟨rfl, S.out⟩
  · have k1 : decide (i < 0) = false := by simpa using h1
    by_cases h2 : (r : Int) ≤ i
    · rw [show badR r i = true from decide_eq_true (.inr h2)]
      have k2 : decide ((r : Int) ≤ i) = true := by simpa using h2
      clear h1 h2
      go_enter Try.func50, Try.ntmps50
      go_wp2_with fail
      go_ret
      exact ⟨rfl, S.out⟩
    · rw [show badR r i = false from decide_eq_false (by omega)]
      have k2 : decide ((r : Int) ≤ i) = false := by simpa using h2
      clear h1 h2
      go_enter Try.func50, Try.ntmps50
      go_wp2_with fail
      go_ret
      exact ⟨rfl, S.out⟩
def ix (p : Int → Bool) : List Int → Nat → Int
  | [], _ => -1
  | i :: l, k => if p i then k else ix p l (k + 1)
set_option maxHeartbeats 2000000 in
theorem ixf_calls (X : HP) (p : Int → Bool) (bm : Nat) (ns : List Int) (a : Option Addr) (n ca : Nat) (hn : n ≤ 1000000) (hr : IReads B w0 X (.slice a n ca) ns) (hp : ∀ i w, St B w0 w X → Calls Try.prog 50 #[.int .i64 i, .pointer (some ⟨bm, 0, none⟩)] w (RetG B w0 X (.bool (p i)))) (w : World) (s : St B w0 w X) :
    Calls Try.prog 56 #[.slice a n ca, .func (.func 50) #[] #[.pointer (some ⟨bm, 0, none⟩)]] w (RetG B w0 X (.int .i64 (ix p ns 0))) := by
  obtain rfl := (hr w emp (s.eq (emp_sep _).symm)).rd.1
  have HP := Lib.hid hp
  have HR := Lib.hid hr
  have S := Lib.hid s
  clear s
  clear hp hr
  go_enter Try.func56, Try.ntmps56
  go_wp2_with fail
  go_loopw [8] (fun i wr => ∃ k : Nat, k ≤ ns.length ∧ i = .int .i64 k ∧ ix p (ns.drop k) k = ix p ns 0 ∧ St B w0 wr X) (fun i _ => ns.length - (intOf i).toNat)
  case atStart => exact ⟨0, Nat.zero_le _, rfl, rfl, S.out⟩
  case round =>
    obtain ⟨k, hk, rfl, hix, s⟩ := hrel
    clear S
    have S := Lib.hid s
    clear s
    by_cases hlt : k < ns.length
    · have q := HR.out _ emp (S.out.eq (emp_sep _).symm)
      obtain ⟨b1, o1, rfl⟩ := q.head (by omega)
      have c1 := q.cellAt k hlt
      rw [List.drop_eq_getElem_cons hlt] at hix
      generalize ns[k] = x at c1 hix
      cases hx : p x with
      | true =>
        have HIX := Lib.hid (show (k : Int) = ix p ns 0 by rw [← hix]; exact (if_pos hx).symm)
        have HX := Lib.hid hx
        clear q hix hx
        go_wp2_with fail
        refine (HP.out x _ S.out).mono ?_
        rw [HX.out]
        rintro e wq ⟨rfl, sq⟩
        clear S
        have S := Lib.hid sq
        clear sq
        go_wp2_with fail
        go_ret
        exact ⟨by rw [← HIX.out]; rfl, S.out⟩
      | false =>
        have HIX := Lib.hid (show ix p (ns.drop (k + 1)) (k + 1) = ix p ns 0 by rw [← hix]; exact (if_neg (by rw [hx]; decide)).symm)
        have HX := Lib.hid hx
        clear q hix hx
        go_wp2_with fail
        refine (HP.out x _ S.out).mono ?_
        rw [HX.out]
        rintro e wq ⟨rfl, sq⟩
        clear S
        have S := Lib.hid sq
        clear sq
        go_wp2_with fail
        go_roundw
        case rel => exact ⟨k + 1, by omega, by go_num, HIX.out, S.out⟩
        case measure => simp [intOf]; omega
    · have hd : ns.drop k = [] := List.drop_of_length_le (by omega)
      have HIX := Lib.hid (show (-1 : Int) = ix p ns 0 by rw [← hix, hd]; rfl)
      clear hix hd
      obtain rfl : k = ns.length := by omega
      go_wp2_with fail
      go_ret
      exact ⟨by rw [← HIX.out]; rfl, S.out⟩
theorem ix_any (p : Int → Bool) : ∀ (l : List Int) (k : Nat), decide (0 ≤ ix p l k) = l.any p
  | [], _ => rfl
  | i :: l, k => by
    show decide (0 ≤ if p i then (k : Int) else ix p l (k + 1)) = (p i || l.any p)
    cases h : p i with
    | true => simp
    | false => simp [ix_any p l (k + 1)]
theorem cf_calls (X : HP) (p : Int → Bool) (bm : Nat) (ns : List Int) (a : Option Addr) (n ca : Nat) (hn : n ≤ 1000000) (hr : IReads B w0 X (.slice a n ca) ns) (hp : ∀ i w, St B w0 w X → Calls Try.prog 50 #[.int .i64 i, .pointer (some ⟨bm, 0, none⟩)] w (RetG B w0 X (.bool (p i)))) (w : World) (s : St B w0 w X) :
    Calls Try.prog 49 #[.slice a n ca, .func (.func 50) #[] #[.pointer (some ⟨bm, 0, none⟩)]] w (RetG B w0 X (.bool (ns.any p))) := by
  have HC := Lib.hid (ixf_calls X p bm ns a n ca hn hr hp w s)
  have HA := Lib.hid (ix_any p ns 0)
  clear hr hp s
  generalize ix p ns 0 = z at HC HA
  go_enter Try.func49, Try.ntmps49
  go_wp2_with fail
  refine HC.out.mono ?_
  rintro e wq ⟨rfl, sq⟩
  have S := Lib.hid sq
  clear sq HC
  go_wp2_with fail
  go_ret
  exact ⟨by rw [← HA.out]; rfl, S.out⟩
def pk (f : Mx) (ns : List Int) : Mx := fun i j => f (ns.getD i 0).toNat j
set_option maxRecDepth 100000 in
set_option maxHeartbeats 4000000 in
theorem pick_bad (b g cap fb r c : Nat) (f : Mx) (ns : List Int) (a : Option Addr) (n ca : Nat) (hn : n ≤ 1000000) (hr : IReads B w0 R (.slice a n ca) ns) (h : ¬ ((1 ≤ n ∧ n ≤ 32) ∧ ns.any (badR r) = false)) (w : World) (s : St B w0 w (mo b g cap fb r c f * R)) :
    Calls Try.prog 36 #[.pointer (some ⟨b, 0, none⟩), .slice a n ca] w (RetG B w0 (mo b g cap fb r c f * R) (.tuple #[.pointer none, .int .i64 1])) := by
  have s1 := s.alloc (.cells #[.pointer (some ⟨b, 0, none⟩)] 42)
  have HR := Lib.hid hr
  have S := Lib.hid s1
  clear s s1 hr
  by_cases hin : 1 ≤ n ∧ n ≤ 32
  · have HI := Lib.hid (show inB (n : Int) = true from decide_eq_true (by omega))
    have HB := Lib.hid (show ns.any (badR r) = true by cases hh : ns.any (badR r) with | true => rfl | false => exact absurd ⟨hin, hh⟩ h)
    clear h hin
    go_enter Try.func36, Try.ntmps36
    go_wp2_with fail
    generalize w.heap.size = bm at *
    refine (in_calls (n : Int) _).mono ?_
    rw [HI.out]
    rintro e wq ⟨rfl, rfl⟩
    go_wp2_with fail
    refine (cf_calls (pts bm (.cells #[.pointer (some ⟨b, 0, none⟩)] 42) * (mo b g cap fb r c f * R)) (badR r) bm ns a n ca hn (ireads_left _ (ireads_left _ HR.out)) (fun i w s => clo_calls bm b g cap fb r c f i w s) _ S.out).mono ?_
    rw [HB.out]
    rintro e wq ⟨rfl, sq⟩
    clear S
    have S := Lib.hid sq.right
    clear sq
    go_wp2_with fail
    go_ret2
    exact ⟨rfl, S.out⟩
  · have HI := Lib.hid (show inB (n : Int) = false from decide_eq_false (by omega))
    clear h hin
    go_enter Try.func36, Try.ntmps36
    go_wp2_with fail
    refine (in_calls (n : Int) _).mono ?_
    rw [HI.out]
    rintro e wq ⟨rfl, rfl⟩
    go_wp2_with fail
    go_ret2
    exact ⟨rfl, S.out.right⟩
def PKJ (B : Nat) (w0 : World) (bo fb m c : Nat) (v : Value) (n0 n1 : Nat) (xs ys : List UInt8) (Y : HP) (j : Nat) (vs : Nat → Value) (w : World) : Prop := match j with
  | 0 => St B w0 w (pts bo (.cells #[.pointer (some ⟨fb, 0, none⟩), .int .i64 (m : Int), .int .i64 (c : Int), v] 93) * (row 5 1 v n0 (bvs xs) * Y))
  | 1 => ∃ a k, vs 0 = .slice a n1 k ∧ St B w0 w (pts bo (.cells #[.pointer (some ⟨fb, 0, none⟩), .int .i64 (m : Int), .int .i64 (c : Int), v] 93) * (row 5 1 (.slice a n1 k) n1 (bvs ys) * Y))
  | _ => ∃ a k, vs 0 = .slice a n1 k ∧ St B w0 w (pts bo (.cells #[.pointer (some ⟨fb, 0, none⟩), .int .i64 (m : Int), .int .i64 (c : Int), .slice a n1 k] 93) * (row 5 1 (.slice a n1 k) n1 (bvs ys) * Y))
theorem PKJ_call {bo fb m c : Nat} {v : Value} {n0 n1 : Nat} {xs ys : List UInt8} {Y : HP} {j : Nat} {vs : Nat → Value} {w : World} {gf : FuncId} {args : Array Value} {u : Value} (h : PKJ B w0 bo fb m c v n0 n1 xs ys Y j vs w)
    (hc : ∀ X w, St B w0 w (Y * X) → Calls Try.prog gf args w (RetG B w0 (Y * X) u)) : Calls Try.prog gf args w fun e w' => e = .returned u ∧ PKJ B w0 bo fb m c v n0 n1 xs ys Y j vs w' := by
  match j, h with
  | 0, h => exact (hc _ w (St.eq (Q := Y * (pts bo (.cells #[.pointer (some ⟨fb, 0, none⟩), .int .i64 (m : Int), .int .i64 (c : Int), v] 93) * row 5 1 v n0 (bvs xs))) (by ac_rfl) h)).mono fun _ _ ⟨e1, e2⟩ => ⟨e1, St.eq (by ac_rfl) e2⟩
  | 1, ⟨a, k, e, h⟩ => exact (hc _ w (St.eq (Q := Y * (pts bo (.cells #[.pointer (some ⟨fb, 0, none⟩), .int .i64 (m : Int), .int .i64 (c : Int), v] 93) * row 5 1 (.slice a n1 k) n1 (bvs ys))) (by ac_rfl) h)).mono fun _ _ ⟨e1, e2⟩ => ⟨e1, a, k, e, St.eq (by ac_rfl) e2⟩
  | _ + 2, ⟨a, k, e, h⟩ => exact (hc _ w (St.eq (Q := Y * (pts bo (.cells #[.pointer (some ⟨fb, 0, none⟩), .int .i64 (m : Int), .int .i64 (c : Int), .slice a n1 k] 93) * row 5 1 (.slice a n1 k) n1 (bvs ys))) (by ac_rfl) h)).mono fun _ _ ⟨e1, e2⟩ => ⟨e1, a, k, e, St.eq (by ac_rfl) e2⟩
set_option maxRecDepth 100000 in
set_option maxHeartbeats 8000000 in
theorem pick_good (b g cap fb r c : Nat) (f : Mx) (ns : List Int) (a : Option Addr) (m ca : Nat) (hr32 : r ≤ 32) (hc : 1 ≤ c ∧ c ≤ 32) (hm : 1 ≤ m ∧ m ≤ 32) (hrd : IReads B w0 R (.slice a m ca) ns) (hb : ns.any (badR r) = false) (w : World) (s : St B w0 w (mo b g cap fb r c f * R)) :
    Calls Try.prog 36 #[.pointer (some ⟨b, 0, none⟩), .slice a m ca] w fun e w' => ∃ b2, e = .returned (.tuple #[.pointer (some ⟨b2, 0, none⟩), .int .i64 0]) ∧ St B w0 w' (mt b2 fb m c (pk f ns) * (mo b g cap fb r c f * R)) := by
  have hrc : r * c ≤ 32 * 32 := Nat.mul_le_mul hr32 hc.2
  have hmc : m * c ≤ 32 * 32 := Nat.mul_le_mul hm.2 hc.2
  have s1 := s.alloc (.cells #[.pointer (some ⟨b, 0, none⟩)] 42)
  have HR := Lib.hid hrd
  have HN := Lib.hid (hrd w (mo b g cap fb r c f) s).rd.1
  have S := Lib.hid s1
  have HI := Lib.hid (show inB (m : Int) = true from decide_eq_true (by omega))
  have HB := Lib.hid hb
  have HG := Lib.hid (show ∀ k (hk : k < ns.length), 0 ≤ ns[k] ∧ ns[k] < (r : Int) from fun k hk => by
    have := List.any_eq_false.1 hb ns[k] (List.getElem_mem hk)
    unfold badR at this
    simp at this
    omega)
  clear s s1 hrd hb
  go_enter Try.func36, Try.ntmps36
  go_wp2_with fail
  generalize w.heap.size = bm at *
  refine (in_calls (m : Int) _).mono ?_
  rw [HI.out]
  rintro e wq ⟨rfl, rfl⟩
  go_wp2_with fail
  refine (cf_calls (pts bm (.cells #[.pointer (some ⟨b, 0, none⟩)] 42) * (mo b g cap fb r c f * R)) (badR r) bm ns a m ca (by omega) (ireads_left _ (ireads_left _ HR.out)) (fun i w s => clo_calls bm b g cap fb r c f i w s) _ S.out).mono ?_
  rw [HB.out]
  rintro e w2 ⟨rfl, sq⟩
  clear S
  have S := Lib.hid sq
  clear sq HB HI
  go_wp2_with fail
  refine wp_region_rx (fun j w' => if j = 0 then w'.heap.size = w2.drew.heap.size ∧ St B w0 w' (pts bm (.cells #[.pointer (some ⟨b, 0, none⟩)] 42) * (mo b g cap fb r c f * R)) else St B w0 w' (pts w2.drew.heap.size (.cells #[.pointer (some ⟨fb, 0, none⟩), .int .i64 (m : Int), .int .i64 (c : Int), .slice none 0 0] 93) * (pts bm (.cells #[.pointer (some ⟨b, 0, none⟩)] 42) * (mo b g cap fb r c f * R)))) [11] mixed (by kernel_rfl) (by kernel_rfl) ⟨rfl, S.out.drew⟩ ?_
  generalize w2.drew.heap.size = bo
  refine RXl.exactB 0 11 rfl (by kernel_rfl) (.pointer (some ⟨b, 0, none⟩)) rfl rfl rfl rfl rfl (fun j τ w' hj hJ => by obtain rfl : j = 0 := (by omega); have c := St.cell hJ.2 0; simp at c; simp [rho, upd, Spec.val, execOp, go_sem, c]) ?_
  refine RXl.exact (.pointer (some ⟨b, 0, none⟩)) rfl rfl rfl rfl rfl (fun j τ w' hj hJ => by simp [rho, upd, Spec.val, execOp, go_sem]) ?_
  refine RXl.exact (.pointer (some ⟨b, 0, none⟩)) rfl rfl rfl rfl rfl (fun j τ w' hj hJ => by simp [rho, upd, Spec.val, execOp, go_sem]) ?_
  refine RXl.exactB 0 11 rfl (by kernel_rfl) (.pointer (some ⟨fb, 0, none⟩)) rfl rfl rfl rfl rfl (fun j τ w' hj hJ => by obtain rfl : j = 0 := (by omega); have c := (mo_cells (St.eq (sep_left_comm _ _ _) hJ.2)).1; simp [rho, upd, Spec.val, execOp, go_sem, c]) ?_
  refine RXl.exact (.slice a m ca) rfl rfl rfl rfl rfl (fun _ _ _ _ _ => rfl) ?_
  refine RXl.exact (.int .i64 (m : Int)) rfl rfl rfl rfl rfl (fun j τ w' hj hJ => by simp [rho, upd, Spec.val, execOp, go_sem]) ?_
  refine RXl.exactB 0 11 rfl (by kernel_rfl) (.pointer (some ⟨b, 0, none⟩)) rfl rfl rfl rfl rfl (fun j τ w' hj hJ => by obtain rfl : j = 0 := (by omega); have c := St.cell hJ.2 0; simp at c; simp [rho, upd, Spec.val, execOp, go_sem, c]) ?_
  refine RXl.exact (.pointer (some ⟨b, 0, none⟩)) rfl rfl rfl rfl rfl (fun j τ w' hj hJ => by simp [rho, upd, Spec.val, execOp, go_sem]) ?_
  refine RXl.exact (.pointer (some ⟨b, 2, none⟩)) rfl rfl rfl rfl rfl (fun j τ w' hj hJ => by simp [rho, upd, Spec.val, execOp, go_sem]) ?_
  refine RXl.exactB 0 11 rfl (by kernel_rfl) (.int .i64 (c : Int)) rfl rfl rfl rfl rfl (fun j τ w' hj hJ => by obtain rfl : j = 0 := (by omega); have c := (mo_cells (St.eq (sep_left_comm _ _ _) hJ.2)).2.2.1; simp [rho, upd, Spec.val, execOp, go_sem, c]) ?_
  refine RXl.exact (.agg #[.pointer (some ⟨fb, 0, none⟩), .int .i64 (m : Int), .int .i64 (c : Int), .slice none 0 0]) rfl rfl rfl rfl rfl (fun j τ w' hj hJ => by simp [rho, upd, Spec.val, execOp, go_sem]) ?_
  refine RXl.effk 0 (.pointer (some ⟨bo, 0, none⟩)) rfl rfl rfl rfl rfl (fun w' hJ => ⟨w'.alloc (.cells #[.pointer (some ⟨fb, 0, none⟩), .int .i64 (m : Int), .int .i64 (c : Int), .slice none 0 0] 93), by rw [← hJ.1]; simp [rho, upd, Spec.val, execOp, go_sem], by have q := hJ.2.alloc (.cells #[.pointer (some ⟨fb, 0, none⟩), .int .i64 (m : Int), .int .i64 (c : Int), .slice none 0 0] 93); rw [hJ.1] at q; exact q⟩) ?_
  refine RXl.exact (.pointer (some ⟨bo, 0, none⟩)) rfl rfl rfl rfl rfl (fun _ _ _ _ _ => rfl) ?_
  refine RXl.nilx _ (Agr.upd _ _ (Agr.upd _ _ (Agr.upd _ _ (Agr.upd _ _ (Agr.upd _ _ (Agr.upd _ _ (Agr.upd _ _ (Agr.upd _ _ (Agr.upd _ _ (Agr.upd _ _ (Agr.upd _ _ (Agr.upd _ _ (Agr.upd _ _ (Agr.base _)))))))))))))) fun w9 hJ => ?_
  obtain ⟨_, hJ⟩ := hJ
  simp only [Act.put, List.setIfInBounds_toArray, List.set_cons_succ, List.set_cons_zero]
  have s9 : St B w0 w9 (pts bo (.cells #[.pointer (some ⟨fb, 0, none⟩), .int .i64 (m : Int), .int .i64 (c : Int), .slice none 0 0] 93) * (pts bm (.cells #[.pointer (some ⟨b, 0, none⟩)] 42) * (mo b g cap fb r c f * R))) := hJ
  clear hJ S
  have S := Lib.hid ((s9.rowNil 5 1).eq (Q := pts bo (.cells #[.pointer (some ⟨fb, 0, none⟩), .int .i64 (m : Int), .int .i64 (c : Int), .slice none 0 0] 93) * (row 5 1 (.slice none 0 0) 0 [] * (pts bm (.cells #[.pointer (some ⟨b, 0, none⟩)] 42) * (mo b g cap fb r c f * R)))) (by ac_rfl))
  clear s9
  go_wp2_with fail
  go_loopw [32] (fun i wr => ∃ (q : Nat) (v : Value), q ≤ m ∧ i = .int .i64 q ∧ St B w0 wr (pts bo (.cells #[.pointer (some ⟨fb, 0, none⟩), .int .i64 (m : Int), .int .i64 (c : Int), v] 93) * (row 5 1 v (q * c) (bvs (cl q c (pk f ns))) * (pts bm (.cells #[.pointer (some ⟨b, 0, none⟩)] 42) * (mo b g cap fb r c f * R))))) (fun i _ => m - (intOf i).toNat)
  case atStart => exact ⟨0, _, Nat.zero_le _, rfl, by rw [Nat.zero_mul, cl_one]; exact S.out⟩
  case round =>
    obtain ⟨q, v, hq, rfl, s⟩ := hrel
    clear S
    by_cases hlt : q < m
    · have hlen := HN.out
      have qi := HR.out _ (pts bo (.cells #[.pointer (some ⟨fb, 0, none⟩), .int .i64 (m : Int), .int .i64 (c : Int), v] 93) * (row 5 1 v (q * c) (bvs (cl q c (pk f ns))) * (pts bm (.cells #[.pointer (some ⟨b, 0, none⟩)] 42) * mo b g cap fb r c f))) (s.eq (by ac_rfl))
      obtain ⟨b1, o1, rfl⟩ := qi.head (by omega)
      have ci := qi.cellAt q (by omega)
      obtain ⟨i1, i2⟩ := HG.out q (by omega)
      obtain ⟨z, hz⟩ : ∃ z : Nat, ns[q]'(by omega) = (z : Int) := ⟨(ns[q]'(by omega)).toNat, by omega⟩
      rw [hz] at ci i1 i2
      have hzr : z < r := by omega
      have hmr : mrow c (pk f ns) q = mrow c f z := by
        unfold mrow pk
        rw [List.getD_eq_getElem?_getD, List.getElem?_eq_getElem (by omega), Option.getD_some, hz]
        simp
      have HCL := Lib.hid (show bvs (cl q c (pk f ns)) ++ bvs (mrow c f z) = bvs (cl (q + 1) c (pk f ns)) by rw [cl_succ, hmr]; simp [bvs])
      have hqc : (q + 1) * c ≤ m * c := Nat.mul_le_mul_right c hlt
      have hqc2 : (q + 1) * c = q * c + c := Nat.succ_mul q c
      have HQ := Lib.hid (And.intro hqc hqc2)
      obtain ⟨a2, c2, rfl, -⟩ := (s.eq (sep_left_comm _ _ _)).rowSlice
      have S := Lib.hid s
      clear s qi hlen hz hmr hqc hqc2 i1 i2
      go_wp2_with fail
      refine wp_region_rv [44] (PKJ B w0 bo fb m c (.slice a2 (q * c) c2) (q * c) ((q + 1) * c) (cl q c (pk f ns)) (cl (q + 1) c (pk f ns)) (pts bm (.cells #[.pointer (some ⟨b, 0, none⟩)] 42) * (mo b g cap fb r c f * R))) [8, 11] mixed (by kernel_rfl) (by kernel_rfl) (by kernel_rfl) (fun _ => S.out.drew) ?_
      refine RXl.exact (.pointer (some ⟨bo, 0, none⟩)) rfl rfl rfl rfl rfl (fun _ _ _ _ _ => rfl) ?_
      refine RXl.exact (.pointer (some ⟨bo, 0, none⟩)) rfl rfl rfl rfl rfl (fun _ _ _ _ _ => rfl) ?_
      refine RXl.exact (.pointer (some ⟨bo, 0, none⟩)) rfl rfl rfl rfl rfl (fun j τ w' hj hJ => (by obtain ⟨vs, hv, hJ⟩ := hJ; exact (by simp [rho, upd, Spec.val, execOp, go_sem]))) ?_
      refine RXl.exact (.pointer (some ⟨bo, 3, none⟩)) rfl rfl rfl rfl rfl (fun j τ w' hj hJ => (by obtain ⟨vs, hv, hJ⟩ := hJ; exact (by simp [rho, upd, Spec.val, execOp, go_sem]))) ?_
      refine RXl.exactB 0 8 rfl (by kernel_rfl) (.slice a2 (q * c) c2) rfl rfl rfl rfl rfl (fun j τ w' hj hJ => (by obtain ⟨vs, hv, hJ⟩ := hJ; exact (by obtain rfl : j = 0 := (by omega); have c := St.cell hJ 3; simp at c; simp [rho, upd, Spec.val, execOp, go_sem, c]))) ?_
      refine RXl.exactB 0 8 rfl (by kernel_rfl) (.pointer (some ⟨b, 0, none⟩)) rfl rfl rfl rfl rfl (fun j τ w' hj hJ => (by obtain ⟨vs, hv, hJ⟩ := hJ; exact (by obtain rfl : j = 0 := (by omega); have c := St.cell (St.eq (Q := pts bm (.cells #[.pointer (some ⟨b, 0, none⟩)] 42) * (pts bo (.cells #[.pointer (some ⟨fb, 0, none⟩), .int .i64 (m : Int), .int .i64 (c : Int), .slice a2 (q * c) c2] 93) * (row 5 1 (.slice a2 (q * c) c2) (q * c) (bvs (cl q c (pk f ns))) * (mo b g cap fb r c f * R)))) (by ac_rfl) hJ) 0; simp at c; simp [rho, upd, Spec.val, execOp, go_sem, c]))) ?_
      refine RXl.exact (.int .i64 (z : Int)) rfl rfl rfl rfl rfl (fun _ _ _ _ _ => rfl) ?_
      refine RXl.callr (.slice (some ⟨g, z * c, none⟩) c (cap - z * c)) _ [.pointer (some ⟨b, 0, none⟩), .int .i64 (z : Int)] [.tmp 41, .tmp 42] _ rfl rfl rfl rfl rfl rfl (fun _ => rfl) (fun j τ w' hj hJ => (by obtain ⟨vs, hv, hJ⟩ := hJ; exact Calls.mono (PKJ_call hJ fun X w s => via (by ac_rfl) s (row_calls b g cap fb r c f z hzr (by omega) (by omega) w (R := pts bm (.cells #[.pointer (some ⟨b, 0, none⟩)] 42) * (R * X)))) fun _ _ hz => ⟨hz.1, vs, hv, hz.2⟩)) ?_
      refine RXl.effV 0 44 rfl rfl rfl (Nat.le_of_ble_eq_true rfl) rfl rfl rfl rfl (fun ρ vs w' hv hJ hag => by (have s : St B w0 w' (pts bo (.cells #[.pointer (some ⟨fb, 0, none⟩), .int .i64 (m : Int), .int .i64 (c : Int), .slice a2 (q * c) c2] 93) * (row 5 1 (.slice a2 (q * c) c2) (q * c) (bvs (cl q c (pk f ns))) * (pts bm (.cells #[.pointer (some ⟨b, 0, none⟩)] 42) * (mo b g cap fb r c f * R)))) := hJ; have e40 := hag.ex 40 (.slice a2 (q * c) c2) rfl rfl rfl; have e43 := hag.ex 43 (.slice (some ⟨g, z * c, none⟩) c (cap - z * c)) rfl rfl rfl; have hbs := row_bs hzr (by omega) (s.eq (Q := mo b g cap fb r c f * (pts bo (.cells #[.pointer (some ⟨fb, 0, none⟩), .int .i64 (m : Int), .int .i64 (c : Int), .slice a2 (q * c) c2] 93) * (row 5 1 (.slice a2 (q * c) c2) (q * c) (bvs (cl q c (pk f ns))) * (pts bm (.cells #[.pointer (some ⟨b, 0, none⟩)] 42) * R)))) (by ac_rfl)); obtain ⟨v', w3, hr, s3, -⟩ := run_append_st (P := Try.prog) tB 36 (s.eq (sep_left_comm _ _ _)) (some ⟨g, z * c, none⟩) c (cap - z * c) (bvs (mrow c f z)) hbs.rd.2.2.2.2 (fun e => by cases e) (by simp [mrow_len]) (bvs_one _) (by have := HQ.out; unfold maxLen; omega) (by have := HQ.out; omega); rw [HCL.out, ← HQ.out.2] at s3; obtain ⟨a6, c6, rfl, -⟩ := s3.rowSlice; exact ⟨.slice a6 ((q + 1) * c) c6, w3, by simp [execOp, resolve, invoke, builtin, e40, e43, hr, Result.andThen], a6, c6, by simp [updv], s3.eq (sep_left_comm _ _ _)⟩)) ?_
      refine RXl.exact (.pointer (some ⟨bo, 0, none⟩)) rfl rfl rfl rfl rfl (fun j τ w' hj hJ => (by obtain ⟨vs, hv, hJ⟩ := hJ; exact (by simp [rho, upd, Spec.val, execOp, go_sem]))) ?_
      refine RXl.exact (.pointer (some ⟨bo, 3, none⟩)) rfl rfl rfl rfl rfl (fun j τ w' hj hJ => (by obtain ⟨vs, hv, hJ⟩ := hJ; exact (by simp [rho, upd, Spec.val, execOp, go_sem]))) ?_
      refine RXl.effS 1 rfl rfl rfl rfl rfl rfl (fun ρ vs w' hv hJ hag => by (obtain ⟨a6, c6, e, s⟩ := hJ; have e46 := hag.ex 46 (.pointer (some ⟨bo, 3, none⟩)) rfl rfl rfl; have e44 : ρ (.tmp 44) = .slice a6 ((q + 1) * c) c6 := (hv 0 44 (by omega) rfl).trans e; exact ⟨_, exec_store rfl e46 e44 rfl (by kernel_rfl) (s.cell 3) (s.free 3), a6, c6, e, s.set 3 _⟩)) ?_
      refine RXl.nilV _ (AgrL.upd _ _ (AgrL.upd _ _ (AgrL.unk 44 _ rfl (AgrL.upd _ _ (AgrL.upd _ _ (AgrL.upd _ _ (AgrL.upd _ _ (AgrL.upd _ _ (AgrL.upd _ _ (AgrL.upd _ _ (AgrL.upd _ _ (AgrL.base _)))))))))))) (by decide) (by decide) fun vs w10 hJ => ?_
      simp only [puts, Act.put, List.setIfInBounds_toArray, List.set_cons_succ, List.set_cons_zero]
      obtain ⟨a6, c6, e, s⟩ := hJ
      rw [show vs 0 = .slice a6 ((q + 1) * c) c6 from e]
      clear S e vs
      have S := Lib.hid s
      clear s HCL HQ
      go_wp2_with fail
      go_roundw
      case rel => exact ⟨q + 1, .slice a6 ((q + 1) * c) c6, by omega, by go_num, S.out⟩
      case measure => simp [intOf]; omega
    · obtain rfl : q = m := by omega
      have hqc : 1 * 1 ≤ q * c := Nat.mul_le_mul (by omega) (by omega)
      obtain ⟨g2, cap2, rfl, -⟩ := (s.eq (sep_left_comm _ _ _)).rowSome (by rintro rfl; have := (s.eq (sep_left_comm _ _ _)).rowSlice; obtain ⟨a9, c9, e9, -⟩ := this; simp at e9; omega)
      have S := Lib.hid s
      clear s
      go_wp2_with fail
      go_ret2
      refine ⟨bo, rfl, mt_close (g := g2) (cap := cap2) ?_⟩
      have q9 := S.out.eq (Q := pts bm (.cells #[.pointer (some ⟨b, 0, none⟩)] 42) * (mo bo g2 cap2 fb q c (pk f ns) * (mo b g cap fb r c f * R))) (by unfold mo mc; ac_rfl)
      exact q9.right
end
end Go.Proofs.Ytfhphbpgiickfaa.Mt
