/- MatMakes, walked. -/
import Derived.Test.YtfhphbpgiickfaaMtL3
import Derived.Test.YtfhphbpgiickfaaMtP
import Derived.Deep.DeepCutAuto
import Derived.Deep.CutRange
namespace Go.Proofs.Ytfhphbpgiickfaa.Mt
open Go Go.RowKit Go.Proofs.Ytfhphbpgiickfaa Go.Proofs.Ytfhphbpgiickfaa.Sp Go.Proofs.Ytfhphbpgiickfaa.Reg Go.Proofs.Ytfhphbpgiickfaa.Rd Go.Proofs.Ytfhphbpgiickfaa.Gf

/-- Whether so many of the rows may be picked. -/
def okk (r : Nat) (ns : List Int) (k : Nat) : Bool := decide (1 ≤ ns.length ∧ ns.length ≤ 32) && !((ns.take k).any (badR r))
theorem okk_succ (r : Nat) (ns : List Int) (k : Nat) (h : k < ns.length) : okk r ns (k + 1) = (okk r ns k && !badR r ns[k]) := by
  unfold okk
  rw [List.take_succ_eq_append_getElem h, List.any_append]
  simp [Bool.and_assoc]
theorem okk_end (r : Nat) (ns : List Int) : okk r ns ns.length = true ↔ (1 ≤ ns.length ∧ ns.length ≤ 32) ∧ ns.any (badR r) = false := by
  unfold okk
  rw [List.take_length]
  simp
/-- The cell that is asked for. -/
def want (N C : Nat) (f : Mx) (i j : Int) : UInt8 := if (0 ≤ i ∧ i < (N : Int)) ∧ 0 ≤ j ∧ j < (C : Int) then f i.toNat j.toNat else 0
/-- Whether it may be. -/
def gB (r c : Int) (n : Nat) : Bool := decide ((1 ≤ r ∧ r ≤ 32) ∧ (1 ≤ c ∧ c ≤ 32) ∧ (n : Int) = r * c)
def inr (N C : Nat) (i j : Int) : Bool := decide ((0 ≤ i ∧ i < (N : Int)) ∧ 0 ≤ j ∧ j < (C : Int))
theorem at_want {B : Nat} {w0 : World} {R : Sp.HP} (b g cap fb N C : Nat) (f : Mx) (i j : Int) (hr : N * C ≤ 1000000) (w : World) (s : St B w0 w (mo b g cap fb N C f * R)) :
    Calls Try.prog 37 #[.pointer (some ⟨b, 0, none⟩), .int .i64 i, .int .i64 j] w (RetG B w0 (mo b g cap fb N C f * R) (bv (want N C f i j))) := by
  by_cases h : (0 ≤ i ∧ i < (N : Int)) ∧ 0 ≤ j ∧ j < (C : Int)
  · obtain ⟨I0, rfl⟩ : ∃ I0 : Nat, i = (I0 : Int) := ⟨i.toNat, by omega⟩
    obtain ⟨J0, rfl⟩ : ∃ J0 : Nat, j = (J0 : Int) := ⟨j.toNat, by omega⟩
    rw [show want N C f (I0 : Int) (J0 : Int) = f I0 J0 by unfold want; rw [if_pos h]; rfl]
    exact at_in b g cap fb N C f I0 J0 (by omega) (by omega) hr w s
  · rw [show want N C f i j = 0 by unfold want; rw [if_neg h]]
    exact at_out b g cap fb N C f i j (by omega) w s
def goodM (r c : Int) (n : Nat) : Prop := (1 ≤ r ∧ r ≤ 32) ∧ (1 ≤ c ∧ c ≤ 32) ∧ (n : Int) = r * c
/-- While a row is appended. -/
def AJ (B : Nat) (w0 : World) (n0 n1 : Nat) (xs ys : List UInt8) (v : Value) (Y : HP) (j : Nat) (vs : Nat → Value) (w : World) : Prop := match j with
  | 0 => St B w0 w (row 5 1 v n0 (bvs xs) * Y)
  | j + 1 => ∃ a k, vs 0 = .slice a n1 k ∧ (1 ≤ j → vs 1 = .slice a n1 k) ∧ St B w0 w (row 5 1 (.slice a n1 k) n1 (bvs ys) * Y)
theorem AJ_x {B : Nat} {w0 : World} {n0 n1 : Nat} {xs ys : List UInt8} {v : Value} {Y : HP} {j : Nat} {vs : Nat → Value} {w : World} (h : AJ B w0 n0 n1 xs ys v Y j vs w) : ∃ Z, St B w0 w (Y * Z) := by
  match j, h with
  | 0, h => exact ⟨_, St.eq (sep_comm _ _) h⟩
  | _ + 1, ⟨_, _, _, _, h⟩ => exact ⟨_, h.eq (sep_comm _ _)⟩
theorem row_cutbs {B : Nat} {w0 : World} {R : HP} {g cap r c : Nat} {f : Mx} {i : Nat} {w : World} (li : i < r) (hc0 : 0 < c) (hcap : r * c ≤ cap) (s : St B w0 w (row 5 1 (.slice (some ⟨g, 0, none⟩) (r * c) cap) (r * c) (bvs (cl r c f)) * R)) : BS w (.slice (some ⟨g, i * c, none⟩) c (cap - i * c)) (mrow c f i) := by
  have hb : (i + 1) * c ≤ r * c := Nat.mul_le_mul_right c li
  have hb2 : (i + 1) * c = i * c + c := Nat.succ_mul i c
  have q := s.bs.sub (i * c) (i * c + c) (by omega) (by rw [cl_len]; omega)
  rw [show i * c + c - i * c = c by omega, cl_row f li] at q
  unfold subA at q
  rw [if_neg (by omega), Nat.mul_one] at q
  simpa [Addr.add_lit] using q
set_option maxRecDepth 100000 in
set_option maxHeartbeats 64000000 in
theorem makes_in (r c : Int) (N C : Nat) (hN : bits .and .i64 r 7 = (N : Int) - 1) (hC : bits .and .i64 c 7 = (C : Int) - 1) (bN : 1 ≤ N ∧ N ≤ 8) (bC : 1 ≤ C ∧ C ≤ 8) (rNC : 1 ≤ N * C ∧ N * C ≤ 1024)
    (hr : -9223372036854775808 ≤ r ∧ r ≤ 9223372036854775807) (hc : -9223372036854775808 ≤ c ∧ c ≤ 9223372036854775807)
    (a : Option Addr) (ca : Nat) (la : List UInt8) (i j : Int) (a2 : Option Addr) (cp m : Nat) (ns : List Int) (w0 : World)
    (HA : Hid (BS w0 (.slice a la.length ca) la)) (HP : Hid (IS w0 (.slice a2 m cp) ns)) (la1 : (la.length : Int) ≤ 1100) (lp1 : (m : Int) ≤ 40) :
    Calls Try.prog 12 #[.int .i64 r, .int .i64 c, .slice a la.length ca, .int .i64 i, .int .i64 j, .slice a2 m cp] w0 fun e w' => e = .returned (.bool true) ∧ Below w0.heap.size w0 w' := by
  have hrc : (1 ≤ r ∧ r ≤ 32) ∧ (1 ≤ c ∧ c ≤ 32) → IntKind.i64.wrap (r * c) = r * c := fun h => by
    have h1 : 0 ≤ r * c := Int.mul_nonneg (by omega) (by omega)
    have h2 : r * c ≤ 32 * 32 := Int.mul_le_mul h.1.2 h.2.2 (by omega) (by omega)
    rw [IntKind.wrap_i64]; omega
  have HRC := Lib.hid hrc
  clear hrc hr hc
  go_enter Try.func12, Try.ntmps12
  go_upto_region 3 with fail
  go_cut [13, 14] from 34 to 41 (fun v13 v14 wx => ((goodM r c la.length ∧ ∃ p, v13 = .pointer (some ⟨p, 0, none⟩) ∧ v14 = .int .i64 0) ∨ (¬ goodM r c la.length ∧ v13 = .pointer none ∧ v14 = .int .i64 1)) ∧ ∃ H, St w0.heap.size w0 wx H)
  case first =>
    go_wp2_with fail
    refine (newx w0 (St.init w0)).mono ?_
    rintro e w1 ⟨f1, rfl, s⟩
    have S := Lib.hid s
    clear s
    by_cases hg : goodM r c la.length
    · have HG := Lib.hid hg
      obtain ⟨R0, hR0⟩ : ∃ R0 : Nat, r = (R0 : Int) := ⟨r.toNat, by have := hg.1; omega⟩
      obtain ⟨C0, hC0⟩ : ∃ C0 : Nat, c = (C0 : Int) := ⟨c.toNat, by have := hg.2.1; omega⟩
      subst hR0
      subst hC0
      obtain ⟨g1, g2, g3⟩ := hg
      have e0 : (R0 : Int) * (C0 : Int) = ((R0 * C0 : Nat) : Int) := by push_cast; rfl
      have HLN := Lib.hid (show la.length = R0 * C0 by rw [e0] at g3; omega)
      clear g3 e0 HRC
      go_wp2_with fail
      refine (new_good f1 R0 C0 a la.length ca la (by omega) (by omega) HLN.out _ (HA.out.st rfl S.out) S.out).mono ?_
      rintro e w2 ⟨p1, rfl, s⟩
      clear S
      have S := Lib.hid s
      clear s
      go_wp2_with fail
      go_meet
      exact ⟨.inl ⟨HG.out, p1, rfl, rfl⟩, _, S.out⟩
    · have HG := Lib.hid hg
      clear hg HRC
      go_wp2_with fail
      refine (new_bad f1 r c a la.length ca (fun h => HG.out h) _ S.out).mono ?_
      rintro e w2 ⟨rfl, s⟩
      clear S
      have S := Lib.hid s
      clear s
      go_wp2_with fail
      go_meet
      exact ⟨.inr ⟨HG.out, rfl, rfl⟩, _, S.out⟩
  case rest =>
  obtain ⟨hD, H0, s⟩ := hcut
  obtain ⟨wA, hwA⟩ : ∃ x, x = wc := ⟨_, rfl⟩
  subst hwA
  have HD := Lib.hid hD
  have S := Lib.hid s
  clear hD s
  go_upto_region 4 with fail
  go_cut [15] from 42 to 63 (fun v15 wx => v15 = .bool (gB r c la.length) ∧ wA = wx)
  case first =>
    by_cases h1 : 1 ≤ r
    · have d1 : decide (1 ≤ r) = true := by simpa using h1
      by_cases h2 : r ≤ 32
      · have d2 : decide (r ≤ 32) = true := by simpa using h2
        by_cases h3 : 1 ≤ c
        · have d3 : decide (1 ≤ c) = true := by simpa using h3
          by_cases h4 : c ≤ 32
          · have d4 : decide (c ≤ 32) = true := by simpa using h4
            have k1 := HRC.out ⟨⟨h1, h2⟩, h3, h4⟩
            have HB := Lib.hid (show ((la.length : Int) == r * c) = gB r c la.length from by
              unfold gB
              rw [Bool.eq_iff_iff]
              simp [h1, h2, h3, h4])
            clear h1 h2 h3 h4 HRC
            go_wp2_with fail
            go_meet
            exact ⟨by (first | (rw [← HB.out]; done) | (rw [← HB.out]; rfl)), rfl⟩
          · have d4 : decide (c ≤ 32) = false := by simpa using h4
            have HB := Lib.hid (show gB r c la.length = false from decide_eq_false (fun h => h4 h.2.1.2))
            clear h1 h2 h3 h4 HRC
            go_wp2_with fail
            go_meet
            exact ⟨by (first | (rw [HB.out]; done) | (rw [HB.out]; rfl)), rfl⟩
        · have d3 : decide (1 ≤ c) = false := by simpa using h3
          have HB := Lib.hid (show gB r c la.length = false from decide_eq_false (fun h => h3 h.2.1.1))
          clear h1 h2 h3 HRC
          go_wp2_with fail
          go_meet
          exact ⟨by (first | (rw [HB.out]; done) | (rw [HB.out]; rfl)), rfl⟩
      · have d2 : decide (r ≤ 32) = false := by simpa using h2
        have HB := Lib.hid (show gB r c la.length = false from decide_eq_false (fun h => h2 h.1.2))
        clear h1 h2 HRC
        go_wp2_with fail
        go_meet
        exact ⟨by (first | (rw [HB.out]; done) | (rw [HB.out]; rfl)), rfl⟩
    · have d1 : decide (1 ≤ r) = false := by simpa using h1
      have HB := Lib.hid (show gB r c la.length = false from decide_eq_false (fun h => h1 h.1.1))
      clear h1 HRC
      go_wp2_with fail
      go_meet
      exact ⟨by (first | (rw [HB.out]; done) | (rw [HB.out]; rfl)), rfl⟩
  case rest =>
  obtain ⟨rfl, rfl⟩ := hcut
  clear HRC
  go_upto_region 5 with fail
  go_cut [81] from 64 to 80 (fun v wx => v = .bool false ∧ wA = wx)
  case first =>
    rcases HD.out with ⟨hg, p1, rfl, rfl⟩ | ⟨hg, rfl, rfl⟩
    · have hB : gB r c la.length = true := decide_eq_true hg
      clear hg HD
      go_wp2_with fail
      go_meet
      exact ⟨rfl, rfl⟩
    · have hB : gB r c la.length = false := decide_eq_false hg
      clear hg HD
      go_wp2_with fail
      go_meet
      exact ⟨rfl, rfl⟩
  case rest =>
  obtain ⟨rfl, rfl⟩ := hcut
  clear HD
  go_wp2_with fail
  refine (make1_calls N C (by omega) a la.length ca la (by omega) _ (fun w H s => HA.out.st rfl s) S.out).mono ?_
  rintro e w3 ⟨gx, kx, rfl, s⟩
  have s1 := (s.left.eq (sep_emp _).symm).alloc (.cells #[.int .i64 (N : Int), .int .i64 (C : Int), .slice (some ⟨gx, 0, none⟩) (N * C) kx] 50)
  unfold rmv
  clear S
  have S := Lib.hid s1
  clear s s1
  go_wp2_with fail
  generalize w3.heap.size = bx at *
  have HRX := Lib.hid (show Reads w0.heap.size w0 (pts bx (.cells #[.int .i64 (N : Int), .int .i64 (C : Int), .slice (some ⟨gx, 0, none⟩) (N * C) kx] 50) * (row 5 1 (.slice (some ⟨gx, 0, none⟩) (N * C) kx) (N * C) (bvs (cl N C (m1 C la))) * emp)) (.slice (some ⟨gx, 0, none⟩) (N * C) kx) (cl N C (m1 C la)) from fun w H s => (s.eq (Q := row 5 1 (.slice (some ⟨gx, 0, none⟩) (N * C) kx) (N * C) (bvs (cl N C (m1 C la))) * (H * (pts bx (.cells #[.int .i64 (N : Int), .int .i64 (C : Int), .slice (some ⟨gx, 0, none⟩) (N * C) kx] 50) * emp))) (by ac_rfl)).bs)
  refine wp_region_rv [93, 98, 92, 99, 13] (PJ w0.heap.size w0 (pts bx (.cells #[.int .i64 (N : Int), .int .i64 (C : Int), .slice (some ⟨gx, 0, none⟩) (N * C) kx] 50) * (row 5 1 (.slice (some ⟨gx, 0, none⟩) (N * C) kx) (N * C) (bvs (cl N C (m1 C la))) * emp)) NF (NH (N) (C) (m1 C la) (pts bx (.cells #[.int .i64 (N : Int), .int .i64 (C : Int), .slice (some ⟨gx, 0, none⟩) (N * C) kx] 50) * (row 5 1 (.slice (some ⟨gx, 0, none⟩) (N * C) kx) (N * C) (bvs (cl N C (m1 C la))) * emp)))) [0, 5, 6, 7, 9] mixed (by kernel_rfl) (by kernel_rfl) (by kernel_rfl) (fun _ => S.out.drew) ?_
  refine RXl.callV 0 93 rfl rfl rfl (Nat.le_of_ble_eq_true rfl) _ [] _ rfl rfl rfl rfl rfl (PJ.first [] (fun ρ w hag => rfl) (fun _ => rfl) (fun w s => (newx w s).mono fun e w1 ⟨fb, h1, s1⟩ => ⟨(fb, 0, 0, 0), h1, s1⟩)) ?_
  refine RXl.exact (.int .i64 ((N : Nat) : Int)) rfl rfl rfl rfl rfl (fun _ _ _ _ _ => rfl) ?_
  refine RXl.exact (.int .i64 ((C : Nat) : Int)) rfl rfl rfl rfl rfl (fun _ _ _ _ _ => rfl) ?_
  refine RXl.exact (.pointer (some ⟨bx, 2, none⟩)) rfl rfl rfl rfl rfl (fun j τ w' hj hJ => (by obtain ⟨vs, hv, hJ⟩ := hJ; exact (by simp [rho, upd, Spec.val, execOp, go_sem]))) ?_
  refine RXl.exact (.slice (some ⟨gx, 0, none⟩) ((N) * (C)) kx) rfl rfl rfl rfl rfl (fun j τ w' hj hJ => (by obtain ⟨vs, hv, hJ⟩ := hJ; exact (by obtain ⟨Z, q⟩ := NJ_x hJ; have c := (q.eq (sep_assoc _ _ _)).cell 2; simp at c; simp [rho, upd, Spec.val, execOp, go_sem, c]))) ?_
  refine RXl.callV 1 98 rfl rfl rfl (Nat.le_of_ble_eq_true rfl) _ [.tmp 93, .tmp 94, .tmp 95, .tmp 97] _ rfl rfl rfl rfl rfl (NJ_new (some ⟨gx, 0, none⟩) ((N) * (C)) kx (by omega) (by omega) HRX.out (fun ρ a w h hag => by simp [h 0 93 (by decide) rfl, hag.ex 94 _ rfl rfl rfl, hag.ex 95 _ rfl rfl rfl, hag.ex 97 _ rfl rfl rfl, NF])) ?_
  refine RXl.effV 2 92 rfl rfl rfl (Nat.le_of_ble_eq_true rfl) rfl rfl rfl rfl (PJ.pass rfl (fun ρ a w h hag s => by have e := h 1 98 (by decide) rfl; exact (exec_move rfl).trans (by rw [e]; rfl))) ?_
  refine RXl.effV 3 99 rfl rfl rfl (Nat.le_of_ble_eq_true rfl) rfl rfl rfl rfl (PJ.pass rfl (fun ρ a w h hag s => by have e := h 2 92 (by decide) rfl; exact exec_extract rfl e rfl)) ?_
  refine RXl.value (.ex (.int .i64 0)) (Free.ex _) rfl rfl rfl rfl (fun ρ w' j hj hI hag => ⟨_, (by obtain ⟨a, e⟩ := PJ.val (hag.so 92 _ rfl rfl rfl); exact exec_extract rfl e rfl), rfl⟩) ?_
  refine RXl.effV 4 13 rfl rfl rfl (Nat.le_of_ble_eq_true rfl) rfl rfl rfl rfl (PJ.pass rfl (fun ρ a w h hag s => by have e := h 3 99 (by decide) rfl; exact (exec_assign rfl).trans (by rw [e]; rfl))) ?_
  refine RXl.exact (.int .i64 0) rfl rfl rfl rfl rfl (fun _ _ _ _ _ => rfl) ?_
  refine RXl.nilV _ (AgrL.upd _ _ (AgrL.unk 13 _ rfl (AgrL.upd _ _ (AgrL.unk 99 _ rfl (AgrL.unk 92 _ rfl (AgrL.unk 98 _ rfl (AgrL.upd _ _ (AgrL.upd _ _ (AgrL.upd _ _ (AgrL.upd _ _ (AgrL.unk 93 _ rfl (AgrL.base _)))))))))))) (by decide) (by decide) fun vs w8 hJ => ?_
  simp only [puts, Act.put, List.setIfInBounds_toArray, List.set_cons_succ, List.set_cons_zero]
  obtain ⟨⟨fa, pa, ga, ka⟩, hv, s9⟩ := hJ
  rw [show vs 0 = NF 0 (fa, pa, ga, ka) from hv 0 (by decide), show vs 1 = NF 1 (fa, pa, ga, ka) from hv 1 (by decide), show vs 2 = NF 2 (fa, pa, ga, ka) from hv 2 (by decide), show vs 3 = .pointer (some ⟨pa, 0, none⟩) from hv 3 (by decide), show vs 4 = .pointer (some ⟨pa, 0, none⟩) from hv 4 (by decide)]
  generalize NF 0 (fa, pa, ga, ka) = y0
  generalize NF 1 (fa, pa, ga, ka) = y1
  generalize NF 2 (fa, pa, ga, ka) = y2
  clear S hv HRX vs
  have S := Lib.hid (show St w0.heap.size w0 w8 (mo pa ga ka fa (N) (C) (m1 C la) * (fx fa * (pts bx (.cells #[.int .i64 (N : Int), .int .i64 (C : Int), .slice (some ⟨gx, 0, none⟩) (N * C) kx] 50) * (row 5 1 (.slice (some ⟨gx, 0, none⟩) (N * C) kx) (N * C) (bvs (cl N C (m1 C la))) * emp)))) from s9)
  clear s9
  have sx := S.out.eq (Q := pts bx (.cells #[.int .i64 (N : Int), .int .i64 (C : Int), .slice (some ⟨gx, 0, none⟩) (N * C) kx] 50) * (mo pa ga ka fa N C (m1 C la) * (fx fa * (row 5 1 (.slice (some ⟨gx, 0, none⟩) (N * C) kx) (N * C) (bvs (cl N C (m1 C la))) * emp)))) (by ac_rfl)
  have x0 := sx.cell 0
  have x1 := sx.cell 1
  have x2 := sx.cell 2
  simp at x0 x1 x2
  clear sx
  go_wp2_with fail
  clear x0 x1 x2
  refine (same_true pa ga ka fa N C (m1 C la) (by omega) gx kx _ (fun w H s => (s.eq (Q := row 5 1 (.slice (some ⟨gx, 0, none⟩) (N * C) kx) (N * C) (bvs (cl N C (m1 C la))) * (H * (fx fa * (pts bx (.cells #[.int .i64 (N : Int), .int .i64 (C : Int), .slice (some ⟨gx, 0, none⟩) (N * C) kx] 50) * emp)))) (by ac_rfl)).bs) S.out).mono ?_
  rintro e wc0 ⟨rfl, s⟩
  clear S
  have S := Lib.hid s
  clear s
  go_upto_region 13 with fail
  go_cut [124] from 109 to 123 (fun v wx => v = .bool (inr N C i j) ∧ wc0 = wx)
  case first =>
    by_cases h1 : 0 ≤ i
    · have d1 : decide (0 ≤ i) = true := by simpa using h1
      by_cases h2 : i < (N : Int)
      · have d2 : decide (i < (N : Int)) = true := by simpa using h2
        by_cases h3 : 0 ≤ j
        · have d3 : decide (0 ≤ j) = true := by simpa using h3
          by_cases h4 : j < (C : Int)
          · have d4 : decide (j < (C : Int)) = true := by simpa using h4
            have HW := Lib.hid (show inr N C i j = true from decide_eq_true ⟨⟨h1, h2⟩, h3, h4⟩)
            clear h1 h2 h3 h4
            go_wp2_with fail
            go_meet
            exact ⟨by (first | (rw [HW.out]; done) | (rw [HW.out]; rfl)), rfl⟩
          · have d4 : decide (j < (C : Int)) = false := by simpa using h4
            have HW := Lib.hid (show inr N C i j = false from decide_eq_false (fun h => h4 h.2.2))
            clear h1 h2 h3 h4
            go_wp2_with fail
            go_meet
            exact ⟨by (first | (rw [HW.out]; done) | (rw [HW.out]; rfl)), rfl⟩
        · have d3 : decide (0 ≤ j) = false := by simpa using h3
          have HW := Lib.hid (show inr N C i j = false from decide_eq_false (fun h => h3 h.2.1))
          clear h1 h2 h3
          go_wp2_with fail
          go_meet
          exact ⟨by (first | (rw [HW.out]; done) | (rw [HW.out]; rfl)), rfl⟩
      · have d2 : decide (i < (N : Int)) = false := by simpa using h2
        have HW := Lib.hid (show inr N C i j = false from decide_eq_false (fun h => h2 h.1.2))
        clear h1 h2
        go_wp2_with fail
        go_meet
        exact ⟨by (first | (rw [HW.out]; done) | (rw [HW.out]; rfl)), rfl⟩
    · have d1 : decide (0 ≤ i) = false := by simpa using h1
      have HW := Lib.hid (show inr N C i j = false from decide_eq_false (fun h => h1 h.1.1))
      clear h1
      go_wp2_with fail
      go_meet
      exact ⟨by (first | (rw [HW.out]; done) | (rw [HW.out]; rfl)), rfl⟩
  case rest =>
  obtain ⟨rfl, rfl⟩ := hcut
  go_upto_if 124 with fail
  go_cut [17] from 124 to 133 (fun v17 wx => v17 = bv (want N C (m1 C la) i j) ∧ wc0 = wx)
  case first =>
    cases hr : inr N C i j with
    | true =>
      have hin : (0 ≤ i ∧ i < (N : Int)) ∧ 0 ≤ j ∧ j < (C : Int) := of_decide_eq_true hr
      obtain ⟨I0, hI0⟩ : ∃ I0 : Nat, i = (I0 : Int) := ⟨i.toNat, by omega⟩
      obtain ⟨J0, hJ0⟩ : ∃ J0 : Nat, j = (J0 : Int) := ⟨j.toNat, by omega⟩
      have hw : want N C (m1 C la) i j = m1 C la I0 J0 := by unfold want; rw [if_pos hin, hI0, hJ0]; rfl
      have HW := Lib.hid hw
      subst hI0
      subst hJ0
      have i1 : I0 < N := by omega
      have j1 : J0 < C := by omega
      obtain ⟨q1, q2, q3, q4, q5⟩ := spot i1 j1 (show N * C ≤ 1000000 by omega)
      have x2 := (S.out.eq (Q := pts bx (.cells #[.int .i64 (N : Int), .int .i64 (C : Int), .slice (some ⟨gx, 0, none⟩) (N * C) kx] 50) * (mo pa ga ka fa N C (m1 C la) * (fx fa * (row 5 1 (.slice (some ⟨gx, 0, none⟩) (N * C) kx) (N * C) (bvs (cl N C (m1 C la))) * emp)))) (by ac_rfl)).cell 2
      simp at x2
      have x5 := (S.out.eq (Q := row 5 1 (.slice (some ⟨gx, 0, none⟩) (N * C) kx) (N * C) (bvs (cl N C (m1 C la))) * (mo pa ga ka fa N C (m1 C la) * (fx fa * (pts bx (.cells #[.int .i64 (N : Int), .int .i64 (C : Int), .slice (some ⟨gx, 0, none⟩) (N * C) kx] 50) * emp)))) (by ac_rfl)).row1.2.2.2.2.1 _ (at_lt i1 j1)
      rw [bvs, List.getElem?_map, cl_get _ i1 j1] at x5
      simp only [Option.map_some] at x5
      clear hin hw hr
      go_wp2_with fail
      go_meet
      exact ⟨by (first | (rw [HW.out]; done) | (rw [HW.out]; rfl)), rfl⟩
    | false =>
      have hin : ¬ ((0 ≤ i ∧ i < (N : Int)) ∧ 0 ≤ j ∧ j < (C : Int)) := of_decide_eq_false hr
      have HW := Lib.hid (show want N C (m1 C la) i j = 0 by unfold want; rw [if_neg hin])
      clear hin hr
      go_wp2_with fail
      go_meet
      exact ⟨by (first | (rw [HW.out]; done) | (rw [HW.out]; rfl)), rfl⟩
  case rest =>
  obtain ⟨rfl, rfl⟩ := hcut
  have HML := Lib.hid HP.out.rd.1
  have HOE := Lib.hid (show okk N ns m = true ↔ (1 ≤ m ∧ m ≤ 32) ∧ ns.any (badR N) = false by rw [HML.out]; exact okk_end N ns)
  have HO0 := Lib.hid (show okk N ns 0 = decide (1 ≤ m ∧ m ≤ 32) by unfold okk; rw [← HML.out]; simp)
  go_upto_region 15 with fail
  go_cut [18, 19] from 134 to 139 (fun v18 v19 wx => ∃ Z : Sp.HP, (((1 ≤ m ∧ m ≤ 32) ∧ ns.any (badR N) = false) ∧ (∃ pp gp kp, v18 = .pointer (some ⟨pp, 0, none⟩) ∧ v19 = .int .i64 0 ∧ Z = mo pp gp kp fa m C (pk (m1 C la) ns)) ∨ ¬ ((1 ≤ m ∧ m ≤ 32) ∧ ns.any (badR N) = false) ∧ v18 = .pointer none ∧ v19 = .int .i64 1 ∧ Z = emp) ∧ St w0.heap.size w0 wx (Z * (mo pa ga ka fa N C (m1 C la) * (fx fa * (pts bx (.cells #[.int .i64 (N : Int), .int .i64 (C : Int), .slice (some ⟨gx, 0, none⟩) (N * C) kx] 50) * (row 5 1 (.slice (some ⟨gx, 0, none⟩) (N * C) kx) (N * C) (bvs (cl N C (m1 C la))) * emp))))))
  case first =>
    by_cases hok : (1 ≤ m ∧ m ≤ 32) ∧ ns.any (badR N) = false
    · have HOK := Lib.hid hok
      go_wp2_with fail
      refine (pick_good pa ga ka fa N C (m1 C la) ns a2 m cp (by omega) (by omega) hok.1 (ireads_arg _ HP.out) hok.2 _ S.out).mono ?_
      clear hok
      rintro e wp ⟨pp, rfl, s⟩
      obtain ⟨gp, kp, s⟩ := mt_open s
      clear S
      have S := Lib.hid s
      clear s
      go_wp2_with fail
      go_meet
      exact ⟨_, .inl ⟨HOK.out, pp, gp, kp, rfl, rfl, rfl⟩, S.out⟩
    · have HOK := Lib.hid hok
      clear hok
      go_wp2_with fail
      refine (pick_bad pa ga ka fa N C (m1 C la) ns a2 m cp (by omega) (ireads_arg _ HP.out) HOK.out _ S.out).mono ?_
      rintro e wp ⟨rfl, s⟩
      clear S
      have S := Lib.hid s
      clear s
      go_wp2_with fail
      go_meet
      exact ⟨emp, .inr ⟨HOK.out, rfl, rfl, rfl⟩, S.out.eq (emp_sep _).symm⟩
  case rest =>
  obtain ⟨Z, hD, s⟩ := hcut
  obtain ⟨wE, hwE⟩ : ∃ x, x = wc := ⟨_, rfl⟩
  subst hwE
  clear S
  have S := Lib.hid s
  have HD := Lib.hid hD
  clear s hD
  go_upto_region 16 with fail
  go_cut [20] from 140 to 147 (fun v20 wx => v20 = .bool (decide (1 ≤ m ∧ m ≤ 32)) ∧ wE = wx)
  case first =>
    go_wp2_with fail
    all_goals
      go_meet
      exact ⟨congrArg Value.bool (by rw [Bool.eq_iff_iff]; simp; omega), rfl⟩
  case rest =>
  obtain ⟨rfl, rfl⟩ := hcut
  go_wp2_with fail
  have S2 := Lib.hid (S.out.rowNil 5 1)
  clear S
  go_loopw [20, 21, 22] (fun v20 v21 i wr => ∃ (q : Nat) (v : Value) (xs : List UInt8), q ≤ m ∧ i = .int .i64 q ∧ v20 = .bool (okk N ns q) ∧ v21 = v ∧ xs.length ≤ q * C ∧ (okk N ns q = true → xs = cl q C (pk (m1 C la) ns)) ∧ St w0.heap.size w0 wr (row 5 1 v (xs).length (bvs (xs)) * (Z * (mo pa ga ka fa N C (m1 C la) * (fx fa * (pts bx (.cells #[.int .i64 (N : Int), .int .i64 (C : Int), .slice (some ⟨gx, 0, none⟩) (N * C) kx] 50) * (row 5 1 (.slice (some ⟨gx, 0, none⟩) (N * C) kx) (N * C) (bvs (cl N C (m1 C la))) * emp))))))) (fun _ _ i _ => m - (intOf i).toNat)
  case atStart => exact ⟨0, _, [], Nat.zero_le _, rfl, congrArg Value.bool (by rw [HO0.out]), rfl, Nat.zero_le _, fun _ => (cl_one _ _).symm, S2.out⟩
  case round =>
    obtain ⟨q, v, xs, hq, rfl, rfl, rfl, hxl, hxs, s⟩ := hrel
    clear S2
    by_cases hlt : q < m
    · have hlen := HML.out
      have hql : q < ns.length := by have := HML.out; omega
      have qi := HP.out.st rfl s
      obtain ⟨b1, o1, e1⟩ := qi.head (by omega)
      subst e1
      have ci := qi.cellAt q hql
      have hks := okk_succ N ns q hql
      have hpk : ∀ z : Nat, ns[q]'hql = (z : Int) → mrow C (pk (m1 C la) ns) q = mrow C (m1 C la) z := fun z hz => by
        unfold mrow pk
        rw [List.getD_eq_getElem?_getD, List.getElem?_eq_getElem hql, Option.getD_some, hz]
        simp
      have HQL := Lib.hid (show q < ns.length by omega)
      obtain ⟨x, hx⟩ : ∃ x, x = ns[q]'hql := ⟨_, rfl⟩
      have HZ := Lib.hid hx.symm
      rw [← hx] at ci hks hpk
      clear hx
      cases hk : okk N ns q with
      | false =>
        rw [hk] at hks
        have HK := Lib.hid (show okk N ns (q + 1) = false from hks)
        have HXL := Lib.hid hxl
        have S := Lib.hid s
        clear s qi hlen hks hk hxs hpk hxl ci
        go_wp2_with fail
        go_roundw
        case rel => exact ⟨q + 1, _, xs, by omega, by go_num, congrArg Value.bool HK.out.symm, rfl, Nat.le_trans HXL.out (Nat.mul_le_mul_right _ (by omega)), (fun h => by rw [HK.out] at h; cases h), S.out⟩
        case measure => simp [intOf]; omega
      | true =>
        rw [hk] at hks
        obtain rfl : xs = cl q C (pk (m1 C la) ns) := hxs hk
        by_cases hb : badR N x = true
        · have HK := Lib.hid (show okk N ns (q + 1) = false by rw [hks, hb]; rfl)
          have hb' : x < 0 ∨ (N : Int) ≤ x := of_decide_eq_true hb
          have HXL := Lib.hid hxl
          have S := Lib.hid s
          clear s qi hlen hks hk hxs hpk hb hxl
          by_cases h1 : 0 ≤ x
          · have d1 : decide (0 ≤ x) = true := by simpa using h1
            have d2 : decide (x < (N : Int)) = false := by simp; omega
            clear hb' h1
            go_wp2_with fail
            go_roundw
            case rel => exact ⟨q + 1, _, _, by omega, by go_num, congrArg Value.bool HK.out.symm, rfl, Nat.le_trans HXL.out (Nat.mul_le_mul_right _ (by omega)), (fun h => by rw [HK.out] at h; cases h), S.out⟩
            case measure => simp [intOf]; omega
          · have d1 : decide (0 ≤ x) = false := by simpa using h1
            clear hb' h1
            go_wp2_with fail
            go_roundw
            case rel => exact ⟨q + 1, _, _, by omega, by go_num, congrArg Value.bool HK.out.symm, rfl, Nat.le_trans HXL.out (Nat.mul_le_mul_right _ (by omega)), (fun h => by rw [HK.out] at h; cases h), S.out⟩
            case measure => simp [intOf]; omega
        · have hb2 : badR N x = false := by simpa using hb
          have HK := Lib.hid (show okk N ns (q + 1) = true by rw [hks, hb2]; rfl)
          have hb' : ¬ (x < 0 ∨ (N : Int) ≤ x) := of_decide_eq_false hb2
          obtain ⟨z, hz⟩ : ∃ z : Nat, x = (z : Int) := ⟨x.toNat, by omega⟩
          subst hz
          have hzn : z < N := by omega
          have HCL := Lib.hid (show bvs (cl q C (pk (m1 C la) ns)) ++ bvs (mrow C (m1 C la) z) = bvs (cl (q + 1) C (pk (m1 C la) ns)) by rw [cl_succ, hpk z rfl]; simp [bvs])
          obtain ⟨a6, c6, rfl, -⟩ := s.rowSlice
          have hcap := (s.eq (Q := row 5 1 (.slice (some ⟨gx, 0, none⟩) (N * C) kx) (N * C) (bvs (cl N C (m1 C la))) * (row 5 1 (.slice a6 (cl q C (pk (m1 C la) ns)).length c6) (cl q C (pk (m1 C la) ns)).length (bvs (cl q C (pk (m1 C la) ns))) * (Z * (mo pa ga ka fa N C (m1 C la) * (fx fa * (pts bx (.cells #[.int .i64 (N : Int), .int .i64 (C : Int), .slice (some ⟨gx, 0, none⟩) (N * C) kx] 50) * emp)))))) (by ac_rfl)).row1.2.2.1
          have HS := Lib.hid (cut_row (g := gx) hzn (show 0 < C by omega) (show N * C ≤ 1000000 by omega) hcap)
          have hq1 : (q + 1) * C ≤ 41 * 8 := Nat.mul_le_mul (by omega) (by omega)
          have hq2 : (q + 1) * C = q * C + C := Nat.succ_mul q C
          rw [cl_len] at s
          have HQ := Lib.hid (And.intro hq1 (And.intro hq2 hcap))
          have S := Lib.hid s
          rw [cl_len]
          clear s qi hlen hks hk hxs hpk hb hb2 hb' hcap hq1 hq2 hxl
          go_wp2_with fail
          refine wp_region_rv [189, 21] (AJ w0.heap.size w0 (q * C) ((q + 1) * C) (cl q C (pk (m1 C la) ns)) (cl (q + 1) C (pk (m1 C la) ns)) (.slice a6 (q * C) c6) (Z * (mo pa ga ka fa N C (m1 C la) * (fx fa * (pts bx (.cells #[.int .i64 (N : Int), .int .i64 (C : Int), .slice (some ⟨gx, 0, none⟩) (N * C) kx] 50) * (row 5 1 (.slice (some ⟨gx, 0, none⟩) (N * C) kx) (N * C) (bvs (cl N C (m1 C la))) * emp)))))) [18, 19] mixed (by kernel_rfl) (by kernel_rfl) (by kernel_rfl) (fun _ => S.out.drew) ?_
          refine RXl.exact (.slice a6 (q * C) c6) rfl rfl rfl rfl rfl (fun _ _ _ _ _ => rfl) ?_
          refine RXl.exact (.pointer (some ⟨bx, 2, none⟩)) rfl rfl rfl rfl rfl (fun j τ w' hj hJ => (by obtain ⟨vs, hv, hJ⟩ := hJ; exact (by simp [rho, upd, Spec.val, execOp, go_sem]))) ?_
          refine RXl.exact (.slice (some ⟨gx, 0, none⟩) (N * C) kx) rfl rfl rfl rfl rfl (fun j τ w' hj hJ => (by obtain ⟨vs, hv, hJ⟩ := hJ; exact (by obtain ⟨Z2, y⟩ := AJ_x hJ; have c := (y.eq (Q := pts bx (.cells #[.int .i64 (N : Int), .int .i64 (C : Int), .slice (some ⟨gx, 0, none⟩) (N * C) kx] 50) * (Z * (mo pa ga ka fa N C (m1 C la) * (fx fa * (row 5 1 (.slice (some ⟨gx, 0, none⟩) (N * C) kx) (N * C) (bvs (cl N C (m1 C la))) * (emp * Z2)))))) (by ac_rfl)).cell 2; simp at c; simp [rho, upd, Spec.val, execOp, go_sem, c]))) ?_
          refine RXl.exact (.slice (some ⟨b1, o1, none⟩) m cp) rfl rfl rfl rfl rfl (fun _ _ _ _ _ => rfl) ?_
          refine RXl.exact (.int .i64 (q : Int)) rfl rfl rfl rfl rfl (fun _ _ _ _ _ => rfl) ?_
          refine RXl.exact (.pointer (some ⟨b1, o1 + q, none⟩)) rfl rfl rfl rfl rfl (fun j τ w' hj hJ => (by obtain ⟨vs, hv, hJ⟩ := hJ; exact (by have t1 : (q : Int) < (m : Int) := (by omega); simp [rho, upd, Spec.val, execOp, go_sem, t1]))) ?_
          refine RXl.exact (.int .i64 (z : Int)) rfl rfl rfl rfl rfl (fun j τ w' hj hJ => (by obtain ⟨vs, hv, hJ⟩ := hJ; exact (by obtain ⟨Z, y⟩ := AJ_x hJ; have c := (HP.out.st rfl y).cellAt q HQL.out; rw [HZ.out] at c; simp [rho, upd, Spec.val, execOp, go_sem, c]))) ?_
          refine RXl.exact (.int .i64 (C : Int)) rfl rfl rfl rfl rfl (fun _ _ _ _ _ => rfl) ?_
          refine RXl.exact (.int .i64 ((z : Int) * (C : Int))) rfl rfl rfl rfl rfl (fun j τ w' hj hJ => (by obtain ⟨vs, hv, hJ⟩ := hJ; exact (by simp [rho, upd, Spec.val, execOp, go_sem, HS.out.2.1]))) ?_
          refine RXl.exact (.slice (some ⟨b1, o1, none⟩) m cp) rfl rfl rfl rfl rfl (fun _ _ _ _ _ => rfl) ?_
          refine RXl.exact (.int .i64 (q : Int)) rfl rfl rfl rfl rfl (fun _ _ _ _ _ => rfl) ?_
          refine RXl.exact (.pointer (some ⟨b1, o1 + q, none⟩)) rfl rfl rfl rfl rfl (fun j τ w' hj hJ => (by obtain ⟨vs, hv, hJ⟩ := hJ; exact (by have t1 : (q : Int) < (m : Int) := (by omega); simp [rho, upd, Spec.val, execOp, go_sem, t1]))) ?_
          refine RXl.exact (.int .i64 (z : Int)) rfl rfl rfl rfl rfl (fun j τ w' hj hJ => (by obtain ⟨vs, hv, hJ⟩ := hJ; exact (by obtain ⟨Z, y⟩ := AJ_x hJ; have c := (HP.out.st rfl y).cellAt q HQL.out; rw [HZ.out] at c; simp [rho, upd, Spec.val, execOp, go_sem, c]))) ?_
          refine RXl.exact (.int .i64 (C : Int)) rfl rfl rfl rfl rfl (fun _ _ _ _ _ => rfl) ?_
          refine RXl.exact (.int .i64 ((z : Int) * (C : Int))) rfl rfl rfl rfl rfl (fun j τ w' hj hJ => (by obtain ⟨vs, hv, hJ⟩ := hJ; exact (by simp [rho, upd, Spec.val, execOp, go_sem, HS.out.2.1]))) ?_
          refine RXl.exact (.int .i64 (C : Int)) rfl rfl rfl rfl rfl (fun _ _ _ _ _ => rfl) ?_
          refine RXl.exact (.int .i64 ((z : Int) * (C : Int) + (C : Int))) rfl rfl rfl rfl rfl (fun j τ w' hj hJ => (by obtain ⟨vs, hv, hJ⟩ := hJ; exact (by simp [rho, upd, Spec.val, execOp, go_sem, HS.out.2.2]))) ?_
          refine RXl.exact (.slice (some ⟨gx, z * C, none⟩) C (kx - z * C)) rfl rfl rfl rfl rfl (fun j τ w' hj hJ => (by obtain ⟨vs, hv, hJ⟩ := hJ; exact (exec_slice rfl (HS.out.1 w')))) ?_
          refine RXl.effV 0 189 rfl rfl rfl (Nat.le_of_ble_eq_true rfl) rfl rfl rfl rfl (fun ρ vs w' hv hJ hag => by (have s : St w0.heap.size w0 w' (row 5 1 (.slice a6 (q * C) c6) (q * C) (bvs (cl q C (pk (m1 C la) ns))) * (Z * (mo pa ga ka fa N C (m1 C la) * (fx fa * (pts bx (.cells #[.int .i64 (N : Int), .int .i64 (C : Int), .slice (some ⟨gx, 0, none⟩) (N * C) kx] 50) * (row 5 1 (.slice (some ⟨gx, 0, none⟩) (N * C) kx) (N * C) (bvs (cl N C (m1 C la))) * emp)))))) := hJ; have e40 := hag.ex 171 (.slice a6 (q * C) c6) rfl rfl rfl; have e43 := hag.ex 188 (.slice (some ⟨gx, z * C, none⟩) C (kx - z * C)) rfl rfl rfl; have hbs := row_cutbs (f := m1 C la) hzn (show 0 < C by omega) HQ.out.2.2 (s.eq (Q := row 5 1 (.slice (some ⟨gx, 0, none⟩) (N * C) kx) (N * C) (bvs (cl N C (m1 C la))) * (row 5 1 (.slice a6 (q * C) c6) (q * C) (bvs (cl q C (pk (m1 C la) ns))) * (Z * (mo pa ga ka fa N C (m1 C la) * (fx fa * (pts bx (.cells #[.int .i64 (N : Int), .int .i64 (C : Int), .slice (some ⟨gx, 0, none⟩) (N * C) kx] 50) * emp)))))) (by ac_rfl)); obtain ⟨v', w3, hr, s3, -⟩ := run_append_st (P := Try.prog) tB 36 s (some ⟨gx, z * C, none⟩) C (kx - z * C) (bvs (mrow C (m1 C la) z)) hbs.rd.2.2.2.2 (fun e => by cases e) (by simp [mrow_len]) (bvs_one _) (by have := HQ.out; unfold maxLen; omega) (by have := HQ.out; omega); rw [HCL.out, ← HQ.out.2.1] at s3; obtain ⟨a7, c7, rfl, -⟩ := s3.rowSlice; exact ⟨.slice a7 ((q + 1) * C) c7, w3, by simp [execOp, resolve, invoke, builtin, e40, e43, hr, Result.andThen], a7, c7, by simp [updv], fun h => absurd h (by decide), s3⟩)) ?_
          refine RXl.effV 1 21 rfl rfl rfl (Nat.le_of_ble_eq_true rfl) rfl rfl rfl rfl (fun ρ vs w' hv hJ hag => by (obtain ⟨a7, c7, e, _, s⟩ := hJ; have e9 : ρ (.tmp 189) = .slice a7 ((q + 1) * C) c7 := (hv 0 189 (by omega) rfl).trans e; exact ⟨_, w', exec_assign rfl, a7, c7, by simpa [updv] using e, fun _ => by simp [updv, e9], s⟩)) ?_
          refine RXl.nilV _ (AgrL.unk 21 _ rfl (AgrL.unk 189 _ rfl (AgrL.upd _ _ (AgrL.upd _ _ (AgrL.upd _ _ (AgrL.upd _ _ (AgrL.upd _ _ (AgrL.upd _ _ (AgrL.upd _ _ (AgrL.upd _ _ (AgrL.upd _ _ (AgrL.upd _ _ (AgrL.upd _ _ (AgrL.upd _ _ (AgrL.upd _ _ (AgrL.upd _ _ (AgrL.upd _ _ (AgrL.upd _ _ (AgrL.upd _ _ (AgrL.upd _ _ (AgrL.base _))))))))))))))))))))) (by decide) (by decide) fun vs w12 hJ => ?_
          simp only [puts, Act.put, List.setIfInBounds_toArray, List.set_cons_succ, List.set_cons_zero]
          obtain ⟨a7, c7, e1, e2, s⟩ := hJ
          rw [show vs 0 = .slice a7 ((q + 1) * C) c7 from e1, show vs 1 = .slice a7 ((q + 1) * C) c7 from e2 (by decide)]
          clear S e1 e2 vs HCL HS
          have S := Lib.hid s
          clear s
          go_wp2_with fail
          go_roundw
          case rel => exact ⟨q + 1, .slice a7 ((q + 1) * C) c7, cl (q + 1) C (pk (m1 C la) ns), by omega, by go_num, congrArg Value.bool HK.out.symm, rfl, Nat.le_of_eq (cl_len _ _ _), fun _ => rfl, by rw [cl_len]; exact S.out⟩
          case measure => simp [intOf]; omega
    · obtain rfl : q = m := by omega
      rcases HD.out with ⟨hok2, pp, gp, kp, rfl, rfl, rfl⟩ | ⟨hok2, rfl, rfl, rfl⟩
      · have hok := HOE.out.2 hok2
        obtain rfl : xs = cl q C (pk (m1 C la) ns) := hxs hok
        rw [hok]
        rw [cl_len] at s
        have hqc : 1 * 1 ≤ q * C := Nat.mul_le_mul (by omega) (by omega)
        obtain ⟨g9, c9, rfl, -⟩ := s.rowSome (by rintro rfl; have := s.rowSlice; obtain ⟨a9, c9, e9, -⟩ := this; simp at e9; omega)
        have S := Lib.hid (s.eq (Q := (mo pp gp kp fa q C (pk (m1 C la) ns)) * (row 5 1 (.slice (some ⟨g9, 0, none⟩) (q * C) c9) (q * C) (bvs (cl q C (pk (m1 C la) ns))) * (mo pa ga ka fa N C (m1 C la) * (fx fa * (pts bx (.cells #[.int .i64 (N : Int), .int .i64 (C : Int), .slice (some ⟨gx, 0, none⟩) (N * C) kx] 50) * (row 5 1 (.slice (some ⟨gx, 0, none⟩) (N * C) kx) (N * C) (bvs (cl N C (m1 C la))) * emp)))))) (by ac_rfl))
        have hqc2 : q * C ≤ 32 * 8 := Nat.mul_le_mul hok2.1.2 (by omega)
        clear s hok hxs hxl hok2 HD
        go_wp2_with fail
        refine (same_true pp gp kp fa q C (pk (m1 C la) ns) (by omega) g9 c9 _ (fun w H s => (s.eq (sep_left_comm _ _ _)).bs) S.out).mono ?_
        rintro e wq ⟨rfl, sq⟩
        clear S
        have S := Lib.hid (sq.right.right)
        clear sq hqc2
        have S9 := Lib.hid ((S.out.alloc (.cells #[.int .u8 1] 5)).eq (sep_left_comm _ _ _))
        clear S
        go_wp2_with fail
        refine (new_nil 1 1 _ _ S9.out).mono ?_
        rintro e wq ⟨rfl, sq⟩
        clear S9
        have S := Lib.hid sq
        clear sq
        go_wp2_with fail
        refine (at_want pa ga ka fa N C (m1 C la) i j (by omega) _ S.out).mono ?_
        rintro e wq ⟨rfl, sq⟩
        clear S
        have S := Lib.hid sq
        clear sq
        go_wp2_with fail
        refine (awakex _ S.out).mono ?_
        rintro e wq ⟨rfl, sq⟩
        clear S
        have S := Lib.hid sq
        clear sq
        go_wp2_with fail
        go_ret
        exact ⟨rfl, S.out.below⟩
      · have hok : okk N ns q = false := by cases h : okk N ns q with | false => rfl | true => exact absurd (HOE.out.1 h) hok2
        rw [hok]
        have S := Lib.hid s.right.right
        clear s hok hxs hxl hok2 HD
        have S9 := Lib.hid ((S.out.alloc (.cells #[.int .u8 1] 5)).eq (sep_left_comm _ _ _))
        clear S
        go_wp2_with fail
        refine (new_nil 1 1 _ _ S9.out).mono ?_
        rintro e wq ⟨rfl, sq⟩
        clear S9
        have S := Lib.hid sq
        clear sq
        go_wp2_with fail
        refine (at_want pa ga ka fa N C (m1 C la) i j (by omega) _ S.out).mono ?_
        rintro e wq ⟨rfl, sq⟩
        clear S
        have S := Lib.hid sq
        clear sq
        go_wp2_with fail
        refine (awakex _ S.out).mono ?_
        rintro e wq ⟨rfl, sq⟩
        clear S
        have S := Lib.hid sq
        clear sq
        go_wp2_with fail
        go_ret
        exact ⟨rfl, S.out.below⟩
set_option maxRecDepth 100000 in
set_option maxHeartbeats 4000000 in
theorem makes_walk (r c : Int) (a : Option Addr) (ca : Nat) (la : List UInt8) (i j : Int) (a2 : Option Addr) (cp : Nat) (ns : List Int) (w0 : World) (wr : (Lit.int .i64 r).wf = true) (wc : (Lit.int .i64 c).wf = true)
    (ha : BS w0 (.slice a la.length ca) la) (_ya : la.length * 1 ≤ 140737488351232) (_wi : (Lit.int .i64 i).wf = true) (_wj : (Lit.int .i64 j).wf = true) (hp : IS w0 (.slice a2 ns.length cp) ns) (_yp : ns.length * 8 ≤ 140737488351232) :
    Calls Try.prog 12 #[.int .i64 r, .int .i64 c, .slice a la.length ca, .int .i64 i, .int .i64 j, .slice a2 ns.length cp] w0 fun e w' => e = .returned (.bool true) ∧ Below w0.heap.size w0 w' := by
  obtain ⟨N, hN, bN⟩ := and7 r
  obtain ⟨C, hC, bC⟩ := and7 c
  have hr := i64_wf wr
  have hc := i64_wf wc
  have HA := Lib.hid ha
  have HP := Lib.hid hp
  clear ha hp wr wc
  have S := Lib.hid (St.init w0)
  by_cases h1 : 1100 < la.length
  · have k1 : (1100 : Int) < (la.length : Int) := by omega
    clear h1 hN hC
    go_enter Try.func12, Try.ntmps12
    go_wp2_with fail
    refine (awakex _ S.out).mono ?_
    rintro e wq ⟨rfl, sq⟩
    clear S
    have S := Lib.hid sq
    clear sq
    go_wp2_with fail
    go_ret
    exact ⟨rfl, S.out.below⟩
  · have k1 : (la.length : Int) ≤ 1100 := by omega
    clear h1
    by_cases h3 : 40 < ns.length
    · have k3 : (40 : Int) < (ns.length : Int) := by omega
      clear h3 hN hC
      go_enter Try.func12, Try.ntmps12
      go_wp2_with fail
      refine (awakex _ S.out).mono ?_
      rintro e wq ⟨rfl, sq⟩
      clear S
      have S := Lib.hid sq
      clear sq
      go_wp2_with fail
      go_ret
      exact ⟨rfl, S.out.below⟩
    · have k3 : (ns.length : Int) ≤ 40 := by omega
      clear h3
      exact makes_in r c N C hN hC bN bC (mul_le8 bN bC) hr hc a ca la i j a2 cp ns.length ns w0 HA HP k1 k3
end Go.Proofs.Ytfhphbpgiickfaa.Mt
