/- TrioTwo, walked. -/
import Derived.Test.YtkkkncchinejmaaTrL1
namespace Go.Proofs.Ytkkkncchinejmaa.TrL
open Go Go.RowKit Go.Proofs.Ytkkkncchinejmaa Go.Proofs.Ytkkkncchinejmaa.Sp Go.Proofs.Ytkkkncchinejmaa.Reg Go.Proofs.Ytkkkncchinejmaa.SlW Go.Proofs.Ytkkkncchinejmaa.Fus Go.Proofs.Ytkkkncchinejmaa.TrM Go.Proofs.Ytkkkncchinejmaa.TapW Go.Proofs.Ytkkkncchinejmaa.TrW
/-- A tape that was synced. -/
def ft (c : List UInt8) (g : Bool) : Tp := ⟨c, 0, g⟩
theorem app_bad (F : Option Fu) (Ts : List Tp) (n : Nat) (r : List UInt8) (h : ¬ okr r) : trApp F Ts n r = (1, F, Ts, n) := by
  unfold trApp
  rw [if_pos (by unfold okr at h; omega)]
theorem app_three (r : List UInt8) (h : okr r) : trApp none [Tp.new, Tp.new, Tp.new] 0 r = (0, none, [ft (jn1 r) false, ft (jn1 r) false, ft (jn1 r) false], 1) := by
  obtain ⟨h1, h2⟩ := h
  have e1 : ¬ (r.length < 1 ∨ 250 < r.length) := by omega
  have e2 : lvi [Tp.new, Tp.new, Tp.new] = [0, 1, 2] := rfl
  have e3 : fullK [Tp.new, Tp.new, Tp.new] [0, 1, 2] (r.length + 1) = false := by simp [fullK, Tp.new]; omega
  have e4 : tApp none Tp.new (jn1 r) = (0, none, ⟨jn1 r, (jn1 r).length, false⟩) := by simp [tApp, Tp.new, fdead, fspend, jn1_len]; omega
  have e5 : apK none [Tp.new, Tp.new, Tp.new] [0, 1, 2] (jn1 r) = (0, none, [⟨jn1 r, (jn1 r).length, false⟩, ⟨jn1 r, (jn1 r).length, false⟩, ⟨jn1 r, (jn1 r).length, false⟩]) := by
    simp [apK, e4, bd]
  have e6 : syK none [⟨jn1 r, (jn1 r).length, false⟩, ⟨jn1 r, (jn1 r).length, false⟩, ⟨jn1 r, (jn1 r).length, false⟩] [0, 1, 2] = (0, [ft (jn1 r) false, ft (jn1 r) false, ft (jn1 r) false]) := by
    simp [syK, tSync, fdead, bd, ft]
  unfold trApp
  rw [if_neg e1, e2, if_neg (by simp), e3, if_neg (by simp), e5]
  simp [e6]
/-- Which tapes failed: those but q. -/
def twos (c : List UInt8) (q k : Nat) : List Tp := [ft c (decide (0 < k ∧ 0 ≠ q)), ft c (decide (1 < k ∧ 1 ≠ q)), ft c (decide (2 < k ∧ 2 ≠ q))]
theorem twos_len (c : List UInt8) (q k : Nat) : (twos c q k).length = 3 := rfl
theorem twos_step (c : List UInt8) (q k : Nat) (hk : k < 3) (hq : k ≠ q) : (twos c q k).set k ⟨((twos c q k).getD k Tp.new).b, ((twos c q k).getD k Tp.new).loose, true⟩ = twos c q (k + 1) := by
  obtain rfl | rfl | rfl : k = 0 ∨ k = 1 ∨ k = 2 := by omega
  · simp [twos, ft, hq]
  · simp [twos, ft, hq]
  · simp [twos, ft, hq]
theorem twos_same (c : List UInt8) (q : Nat) : twos c q (q + 1) = twos c q q := by
  simp only [twos, ft]
  have e : ∀ i : Nat, decide (i < q + 1 ∧ i ≠ q) = decide (i < q ∧ i ≠ q) := fun i => by rw [decide_eq_decide]; omega
  rw [e 0, e 1, e 2]
theorem twos_lvi (c : List UInt8) (q : Nat) (hq : q < 3) : lvi (twos c q 3) = [q] := by
  obtain rfl | rfl | rfl : q = 0 ∨ q = 1 ∨ q = 2 := by omega <;> rfl
  · rfl
  · rfl
  · rfl
theorem twos_open (B : Nat) (w0 : World) (c : List UInt8) (q p0 p1 p2 : Nat) (hq : q < 3) (x : Option Addr) (F : Option Fu) (R : HP) (e : Ending) (w' : World) : OpP B w0 x [p0, p1, p2] (twos c q 3) F R e w' = OpNo B w0 x [p0, p1, p2] (twos c q 3) F 8 R e w' := by
  unfold OpP
  rw [if_pos (by rw [twos_lvi c q hq]; simp)]
theorem twos_app (c : List UInt8) (q n : Nat) (hq : q < 3) (F : Option Fu) : trApp F (twos c q 3) n [1] = (8, F, twos c q 3, n) := by
  unfold trApp
  rw [if_neg (by simp), if_pos (by rw [twos_lvi c q hq]; simp)]
theorem twos_mend (c : List UInt8) (q : Nat) (hq : q < 3) (F : Option Fu) : trMend F (twos c q 3) q = (8, F, twos c q 3) := by
  unfold trMend
  rw [if_neg ?_, mend_none ?_]
  · intro j hj
    obtain rfl | rfl | rfl : q = 0 ∨ q = 1 ∨ q = 2 := by omega
    all_goals (obtain rfl | rfl | rfl : j = 0 ∨ j = 1 ∨ j = 2 := by omega) <;> rfl
  · obtain rfl | rfl | rfl : q = 0 ∨ q = 1 ∨ q = 2 := by omega
    all_goals simp [twos, ft]
set_option maxHeartbeats 400000 in
theorem bit_calls (g : Bool) (w : World) : Calls Try.prog 29 #[.bool g] w fun e w' => e = .returned (.int .i64 (if g then 1 else 0)) ∧ w = w' := by
  cases g
  · skip
    go_enter Try.func29, Try.ntmps29
    go_wp2_with fail
    go_ret
    exact ⟨rfl, rfl⟩
  · skip
    go_enter Try.func29, Try.ntmps29
    go_wp2_with fail
    go_ret
    exact ⟨rfl, rfl⟩
set_option maxRecDepth 100000 in
set_option maxHeartbeats 32000000 in
theorem two_walk (left : Int) (a : Option Addr) (ca : Nat) (r : List UInt8) (W : World) (_w : (Lit.int .i64 left).wf = true) (hr : BS W (.slice a r.length ca) r) (_y : r.length * 1 ≤ 140737488351232) :
    Calls Try.prog 8 #[.int .i64 left, .slice a r.length ca] W fun e w' => e = .returned (.bool true) ∧ Below W.heap.size W w' := by
  have hrm : (r.length : Int) ≤ 9223372036854775807 := by omega
  by_cases hl : 600 < r.length
  · have hl' : (600 : Int) < r.length := by omega
    clear hl hr
    go_enter Try.func8, Try.ntmps8
    go_wp2_with fail
    refine (newt0 _ (St.init W)).mono ?_
    rintro e w1 ⟨b, p0, p1, p2, rfl, s1⟩
    have S1 := Lib.hid s1
    clear s1
    go_wp2_with fail
    refine (awake_calls _).mono ?_
    rintro e w2 ⟨rfl, h2⟩
    have HA := Lib.hid (S1.out.keep h2)
    clear h2
    go_wp2_with fail
    go_ret
    exact ⟨rfl, HA.out.below⟩
  · have hl' : ¬ (600 : Int) < r.length := by omega
    have k1 := and_m8 left
    obtain ⟨y, hy, hy2⟩ : ∃ y : Nat, left % 256 = (y : Int) ∧ y < 256 := ⟨(left % 256).toNat, by omega, by omega⟩
    rw [hy] at k1
    clear hy
    obtain ⟨q, hy, hq3⟩ : ∃ q : Nat, (y : Int) % 3 = (q : Int) ∧ q < 3 := ⟨y % 3, by omega, by omega⟩
    have Hy := Lib.hid hy
    have Hr := Lib.hid hr
    clear hy hr
    go_enter Try.func8, Try.ntmps8
    go_wp2_with fail
    refine (newt0 _ (St.init W)).mono ?_
    rintro e w1 ⟨b, p0, p1, p2, rfl, s1⟩
    have qa := tappend_calls none [Tp.new, Tp.new, Tp.new] 0 r b p0 p1 p2 none a ca rfl (by omega) (by omega) w1 (R := emp) (reads_arg _ Hr.out) s1
    clear s1
    by_cases hok : okr r
    · rw [app_three r hok] at qa
      have Qa := Lib.hid qa
      have h1 : ¬ (r.length : Int) < 1 := by have := hok.1; omega
      have h1' : (1 : Int) ≤ (r.length : Int) := by have := hok.1; omega
      have h2 : (r.length : Int) ≤ 250 := by have := hok.2; omega
      clear qa hok hl
      go_wp2_with fail
      refine Qa.out.mono ?_
      rintro e w2 ⟨rfl, s2⟩
      have S2 := Lib.hid (show St W.heap.size W w2 (tro b p0 p1 p2 1 * (tps none [p0, p1, p2] (twos (jn1 r) q 0) * (fz (.pointer none) none * emp))) from s2.eq (by show trx b none [p0, p1, p2] 1 (twos (jn1 r) q 0) none * emp = _; rw [trx_eq]; ac_rfl))
      clear s2 Qa
      go_wp2_with fail
      refine (records_calls b p0 p1 p2 1 w2 S2.out).mono ?_
      rintro e w3 ⟨rfl, s3⟩
      have S3 := Lib.hid s3
      clear s3 S2
      go_wp2_with fail
      refine (bit_calls true w3).mono ?_
      rintro e w4 ⟨rfl, rfl⟩
      go_wp2_with fail
      refine (tapes_calls b p0 p1 p2 1 w3 S3.out).mono ?_
      rintro e w4 ⟨rfl, s4⟩
      have s5 := s4.alloc (.cells #[pp p0, pp p1, pp p2] 43)
      have S5 := Lib.hid s5
      clear s4 s5 S3
      go_wp2_with fail
      generalize w4.alloc (.cells #[.pointer (some ⟨p0, 0, none⟩), .pointer (some ⟨p1, 0, none⟩), .pointer (some ⟨p2, 0, none⟩)] 43) = w5 at *
      generalize w4.heap.size = gl at *
      go_loopw [8] (fun i wr => ∃ k : Nat, k ≤ 3 ∧ i = .int .i64 k ∧ St W.heap.size W wr (pts gl (.cells #[pp p0, pp p1, pp p2] 43) * (tro b p0 p1 p2 1 * (tps none [p0, p1, p2] (twos (jn1 r) q k) * (fz (.pointer none) none * emp))))) (fun i _ => 3 - (intOf i).toNat)
      case atStart => exact ⟨0, Nat.zero_le _, rfl, S5.out⟩
      case round =>
        obtain ⟨k, hk, rfl, s6⟩ := hrel
        clear S5
        by_cases hlt : k < 3
        · have hc : wr.cell? ⟨gl, k, none⟩ = some (pp ([p0, p1, p2].getD k 0)) := by
            obtain rfl | rfl | rfl : k = 0 ∨ k = 1 ∨ k = 2 := by omega
            · exact s6.cell 0
            · exact s6.cell 1
            · exact s6.cell 2
          have hltI : (k : Int) < 3 := by omega
          have qf := tfail_calls none [p0, p1, p2] (twos (jn1 r) q k) k (by simpa using hlt) hlt wr (s6.eq (Q := tps none [p0, p1, p2] (twos (jn1 r) q k) * (pts gl (.cells #[pp p0, pp p1, pp p2] 43) * (tro b p0 p1 p2 1 * (fz (.pointer none) none * emp)))) (by ac_rfl))
          generalize hp : [p0, p1, p2].getD k 0 = p at *
          have hy := Hy.out
          by_cases hq : k = q
          · subst hq
            have S6 := Lib.hid s6
            clear s6 qf hp
            have e1 : ((k : Int) != (k : Int)) = false := by simp
            go_wp2_with fail
            clear hy
            go_roundw
            case rel => exact ⟨k + 1, by omega, by go_num, by rw [twos_same]; exact S6.out⟩
            case measure => simp [intOf]; omega
          · have e1 : ((k : Int) != (q : Int)) = true := by simp; omega
            rw [twos_step _ _ _ hlt hq] at qf
            have Qf := Lib.hid qf
            have Hp := Lib.hid hp
            clear hp
            clear s6 qf hq
            go_wp2_with fail
            clear hy
            refine Qf.out.mono ?_
            rintro e w7 ⟨rfl, s7⟩
            have S7 := Lib.hid s7
            clear s7 Qf
            go_wp2_with fail
            go_roundw
            case rel => exact ⟨k + 1, by omega, by go_num, S7.out.eq (by ac_rfl)⟩
            case measure => simp [intOf]; omega
        · obtain rfl : k = 3 := by omega
          have c0 := s6.cell 0
          have c1 := s6.cell 1
          have c2 := s6.cell 2
          simp at c0 c1 c2
          have S6 := Lib.hid s6
          clear s6
          go_wp2_with fail
          clear c0 c1 c2
          refine (open_calls none (twos (jn1 r) q 3) p0 p1 p2 none rfl wr (S6.out.eq (Q := tps none [p0, p1, p2] (twos (jn1 r) q 3) * (fz (.pointer none) none * (pts gl (.cells #[pp p0, pp p1, pp p2] 43) * (tro b p0 p1 p2 1 * emp)))) (by ac_rfl))).mono ?_
          intro e w8 h
          rw [twos_open _ _ _ _ _ _ _ hq3] at h
          obtain ⟨rfl, s8⟩ := h
          have S8 := Lib.hid s8
          clear s8 S6
          go_wp2_with fail
          have s9 := S8.out.alloc (.cells #[.int .u8 1] 5)
          have qa := tappend_calls none (twos (jn1 r) q 3) 1 [1] b p0 p1 p2 none (some ⟨w8.heap.size, 0, none⟩) 1 rfl (by omega) (by simp) _ (R := pts w8.heap.size (.cells #[.int .u8 1] 5) * (pts gl (.cells #[pp p0, pp p1, pp p2] 43) * emp)) (reads_right _ (reads_lit rfl rfl (by simp [maxLen]))) (s9.eq (by rw [trx_eq]; ac_rfl))
          rw [twos_app _ _ _ hq3] at qa
          refine qa.mono ?_
          rintro e w9 ⟨rfl, s10⟩
          have S10 := Lib.hid (show St W.heap.size W w9 (trx b none [p0, p1, p2] 1 (twos (jn1 r) q 3) none * _) from s10)
          have hy := Hy.out
          clear s9 s10 qa S8
          go_wp2_with fail
          clear hy
          have qm := mend_calls none (twos (jn1 r) q 3) 1 b p0 p1 p2 none (q : Int) rfl w9 S10.out
          rw [twos_mend _ _ hq3] at qm
          rw [Hy.out]
          refine qm.mono ?_
          rintro e w10 ⟨rfl, s11⟩
          have S11 := Lib.hid s11
          clear s11 qm S10
          go_wp2_with fail
          refine (awake_calls _).mono ?_
          rintro e w11 ⟨rfl, h2⟩
          have HA := Lib.hid (S11.out.keep h2)
          clear h2 S11
          go_wp2_with fail
          go_ret
          exact ⟨rfl, HA.out.below⟩
    · rw [app_bad none _ _ r hok] at qa
      have Qa := Lib.hid qa
      have h1 : ¬ (1 : Int) ≤ (r.length : Int) ∨ (1 : Int) ≤ (r.length : Int) ∧ ¬ (r.length : Int) ≤ 250 := by unfold okr at hok; omega
      clear qa hok hl
      rcases h1 with h1 | ⟨h1, h2⟩
      · skip
        go_wp2_with fail
        refine Qa.out.mono ?_
        rintro e w2 ⟨rfl, s2⟩
        have S2 := Lib.hid (show St W.heap.size W w2 (tro b p0 p1 p2 0 * (tps none [p0, p1, p2] (twos [] q 0) * (fz (.pointer none) none * emp))) from s2.eq (by show trx b none [p0, p1, p2] 0 (twos [] q 0) none * emp = _; rw [trx_eq]; ac_rfl))
        clear s2 Qa
        go_wp2_with fail
        refine (records_calls b p0 p1 p2 0 w2 S2.out).mono ?_
        rintro e w3 ⟨rfl, s3⟩
        have S3 := Lib.hid s3
        clear s3 S2
        go_wp2_with fail
        refine (bit_calls false w3).mono ?_
        rintro e w4 ⟨rfl, rfl⟩
        go_wp2_with fail
        refine (tapes_calls b p0 p1 p2 0 w3 S3.out).mono ?_
        rintro e w4 ⟨rfl, s4⟩
        have s5 := s4.alloc (.cells #[pp p0, pp p1, pp p2] 43)
        have S5 := Lib.hid s5
        clear s4 s5 S3
        go_wp2_with fail
        generalize w4.alloc (.cells #[.pointer (some ⟨p0, 0, none⟩), .pointer (some ⟨p1, 0, none⟩), .pointer (some ⟨p2, 0, none⟩)] 43) = w5 at *
        generalize w4.heap.size = gl at *
        go_loopw [8] (fun i wr => ∃ k : Nat, k ≤ 3 ∧ i = .int .i64 k ∧ St W.heap.size W wr (pts gl (.cells #[pp p0, pp p1, pp p2] 43) * (tro b p0 p1 p2 0 * (tps none [p0, p1, p2] (twos [] q k) * (fz (.pointer none) none * emp))))) (fun i _ => 3 - (intOf i).toNat)
        case atStart => exact ⟨0, Nat.zero_le _, rfl, S5.out⟩
        case round =>
          obtain ⟨k, hk, rfl, s6⟩ := hrel
          clear S5
          by_cases hlt : k < 3
          · have hc : wr.cell? ⟨gl, k, none⟩ = some (pp ([p0, p1, p2].getD k 0)) := by
              obtain rfl | rfl | rfl : k = 0 ∨ k = 1 ∨ k = 2 := by omega
              · exact s6.cell 0
              · exact s6.cell 1
              · exact s6.cell 2
            have hltI : (k : Int) < 3 := by omega
            have qf := tfail_calls none [p0, p1, p2] (twos [] q k) k (by simpa using hlt) hlt wr (s6.eq (Q := tps none [p0, p1, p2] (twos [] q k) * (pts gl (.cells #[pp p0, pp p1, pp p2] 43) * (tro b p0 p1 p2 0 * (fz (.pointer none) none * emp)))) (by ac_rfl))
            generalize hp : [p0, p1, p2].getD k 0 = p at *
            have hy := Hy.out
            by_cases hq : k = q
            · subst hq
              have S6 := Lib.hid s6
              clear s6 qf hp
              have e1 : ((k : Int) != (k : Int)) = false := by simp
              go_wp2_with fail
              clear hy
              go_roundw
              case rel => exact ⟨k + 1, by omega, by go_num, by rw [twos_same]; exact S6.out⟩
              case measure => simp [intOf]; omega
            · have e1 : ((k : Int) != (q : Int)) = true := by simp; omega
              rw [twos_step _ _ _ hlt hq] at qf
              have Qf := Lib.hid qf
              have Hp := Lib.hid hp
              clear hp
              clear s6 qf hq
              go_wp2_with fail
              clear hy
              refine Qf.out.mono ?_
              rintro e w7 ⟨rfl, s7⟩
              have S7 := Lib.hid s7
              clear s7 Qf
              go_wp2_with fail
              go_roundw
              case rel => exact ⟨k + 1, by omega, by go_num, S7.out.eq (by ac_rfl)⟩
              case measure => simp [intOf]; omega
          · obtain rfl : k = 3 := by omega
            have c0 := s6.cell 0
            have c1 := s6.cell 1
            have c2 := s6.cell 2
            simp at c0 c1 c2
            have S6 := Lib.hid s6
            clear s6
            go_wp2_with fail
            clear c0 c1 c2
            refine (open_calls none (twos [] q 3) p0 p1 p2 none rfl wr (S6.out.eq (Q := tps none [p0, p1, p2] (twos [] q 3) * (fz (.pointer none) none * (pts gl (.cells #[pp p0, pp p1, pp p2] 43) * (tro b p0 p1 p2 0 * emp)))) (by ac_rfl))).mono ?_
            intro e w8 h
            rw [twos_open _ _ _ _ _ _ _ hq3] at h
            obtain ⟨rfl, s8⟩ := h
            have S8 := Lib.hid s8
            clear s8 S6
            go_wp2_with fail
            have s9 := S8.out.alloc (.cells #[.int .u8 1] 5)
            have qa := tappend_calls none (twos [] q 3) 0 [1] b p0 p1 p2 none (some ⟨w8.heap.size, 0, none⟩) 1 rfl (by omega) (by simp) _ (R := pts w8.heap.size (.cells #[.int .u8 1] 5) * (pts gl (.cells #[pp p0, pp p1, pp p2] 43) * emp)) (reads_right _ (reads_lit rfl rfl (by simp [maxLen]))) (s9.eq (by rw [trx_eq]; ac_rfl))
            rw [twos_app _ _ _ hq3] at qa
            refine qa.mono ?_
            rintro e w9 ⟨rfl, s10⟩
            have S10 := Lib.hid (show St W.heap.size W w9 (trx b none [p0, p1, p2] 0 (twos [] q 3) none * _) from s10)
            have hy := Hy.out
            clear s9 s10 qa S8
            go_wp2_with fail
            clear hy
            have qm := mend_calls none (twos [] q 3) 0 b p0 p1 p2 none (q : Int) rfl w9 S10.out
            rw [twos_mend _ _ hq3] at qm
            rw [Hy.out]
            refine qm.mono ?_
            rintro e w10 ⟨rfl, s11⟩
            have S11 := Lib.hid s11
            clear s11 qm S10
            go_wp2_with fail
            refine (awake_calls _).mono ?_
            rintro e w11 ⟨rfl, h2⟩
            have HA := Lib.hid (S11.out.keep h2)
            clear h2 S11
            go_wp2_with fail
            go_ret
            exact ⟨rfl, HA.out.below⟩
      · skip
        go_wp2_with fail
        refine Qa.out.mono ?_
        rintro e w2 ⟨rfl, s2⟩
        have S2 := Lib.hid (show St W.heap.size W w2 (tro b p0 p1 p2 0 * (tps none [p0, p1, p2] (twos [] q 0) * (fz (.pointer none) none * emp))) from s2.eq (by show trx b none [p0, p1, p2] 0 (twos [] q 0) none * emp = _; rw [trx_eq]; ac_rfl))
        clear s2 Qa
        go_wp2_with fail
        refine (records_calls b p0 p1 p2 0 w2 S2.out).mono ?_
        rintro e w3 ⟨rfl, s3⟩
        have S3 := Lib.hid s3
        clear s3 S2
        go_wp2_with fail
        refine (bit_calls false w3).mono ?_
        rintro e w4 ⟨rfl, rfl⟩
        go_wp2_with fail
        refine (tapes_calls b p0 p1 p2 0 w3 S3.out).mono ?_
        rintro e w4 ⟨rfl, s4⟩
        have s5 := s4.alloc (.cells #[pp p0, pp p1, pp p2] 43)
        have S5 := Lib.hid s5
        clear s4 s5 S3
        go_wp2_with fail
        generalize w4.alloc (.cells #[.pointer (some ⟨p0, 0, none⟩), .pointer (some ⟨p1, 0, none⟩), .pointer (some ⟨p2, 0, none⟩)] 43) = w5 at *
        generalize w4.heap.size = gl at *
        go_loopw [8] (fun i wr => ∃ k : Nat, k ≤ 3 ∧ i = .int .i64 k ∧ St W.heap.size W wr (pts gl (.cells #[pp p0, pp p1, pp p2] 43) * (tro b p0 p1 p2 0 * (tps none [p0, p1, p2] (twos [] q k) * (fz (.pointer none) none * emp))))) (fun i _ => 3 - (intOf i).toNat)
        case atStart => exact ⟨0, Nat.zero_le _, rfl, S5.out⟩
        case round =>
          obtain ⟨k, hk, rfl, s6⟩ := hrel
          clear S5
          by_cases hlt : k < 3
          · have hc : wr.cell? ⟨gl, k, none⟩ = some (pp ([p0, p1, p2].getD k 0)) := by
              obtain rfl | rfl | rfl : k = 0 ∨ k = 1 ∨ k = 2 := by omega
              · exact s6.cell 0
              · exact s6.cell 1
              · exact s6.cell 2
            have hltI : (k : Int) < 3 := by omega
            have qf := tfail_calls none [p0, p1, p2] (twos [] q k) k (by simpa using hlt) hlt wr (s6.eq (Q := tps none [p0, p1, p2] (twos [] q k) * (pts gl (.cells #[pp p0, pp p1, pp p2] 43) * (tro b p0 p1 p2 0 * (fz (.pointer none) none * emp)))) (by ac_rfl))
            generalize hp : [p0, p1, p2].getD k 0 = p at *
            have hy := Hy.out
            by_cases hq : k = q
            · subst hq
              have S6 := Lib.hid s6
              clear s6 qf hp
              have e1 : ((k : Int) != (k : Int)) = false := by simp
              go_wp2_with fail
              clear hy
              go_roundw
              case rel => exact ⟨k + 1, by omega, by go_num, by rw [twos_same]; exact S6.out⟩
              case measure => simp [intOf]; omega
            · have e1 : ((k : Int) != (q : Int)) = true := by simp; omega
              rw [twos_step _ _ _ hlt hq] at qf
              have Qf := Lib.hid qf
              have Hp := Lib.hid hp
              clear hp
              clear s6 qf hq
              go_wp2_with fail
              clear hy
              refine Qf.out.mono ?_
              rintro e w7 ⟨rfl, s7⟩
              have S7 := Lib.hid s7
              clear s7 Qf
              go_wp2_with fail
              go_roundw
              case rel => exact ⟨k + 1, by omega, by go_num, S7.out.eq (by ac_rfl)⟩
              case measure => simp [intOf]; omega
          · obtain rfl : k = 3 := by omega
            have c0 := s6.cell 0
            have c1 := s6.cell 1
            have c2 := s6.cell 2
            simp at c0 c1 c2
            have S6 := Lib.hid s6
            clear s6
            go_wp2_with fail
            clear c0 c1 c2
            refine (open_calls none (twos [] q 3) p0 p1 p2 none rfl wr (S6.out.eq (Q := tps none [p0, p1, p2] (twos [] q 3) * (fz (.pointer none) none * (pts gl (.cells #[pp p0, pp p1, pp p2] 43) * (tro b p0 p1 p2 0 * emp)))) (by ac_rfl))).mono ?_
            intro e w8 h
            rw [twos_open _ _ _ _ _ _ _ hq3] at h
            obtain ⟨rfl, s8⟩ := h
            have S8 := Lib.hid s8
            clear s8 S6
            go_wp2_with fail
            have s9 := S8.out.alloc (.cells #[.int .u8 1] 5)
            have qa := tappend_calls none (twos [] q 3) 0 [1] b p0 p1 p2 none (some ⟨w8.heap.size, 0, none⟩) 1 rfl (by omega) (by simp) _ (R := pts w8.heap.size (.cells #[.int .u8 1] 5) * (pts gl (.cells #[pp p0, pp p1, pp p2] 43) * emp)) (reads_right _ (reads_lit rfl rfl (by simp [maxLen]))) (s9.eq (by rw [trx_eq]; ac_rfl))
            rw [twos_app _ _ _ hq3] at qa
            refine qa.mono ?_
            rintro e w9 ⟨rfl, s10⟩
            have S10 := Lib.hid (show St W.heap.size W w9 (trx b none [p0, p1, p2] 0 (twos [] q 3) none * _) from s10)
            have hy := Hy.out
            clear s9 s10 qa S8
            go_wp2_with fail
            clear hy
            have qm := mend_calls none (twos [] q 3) 0 b p0 p1 p2 none (q : Int) rfl w9 S10.out
            rw [twos_mend _ _ hq3] at qm
            rw [Hy.out]
            refine qm.mono ?_
            rintro e w10 ⟨rfl, s11⟩
            have S11 := Lib.hid s11
            clear s11 qm S10
            go_wp2_with fail
            refine (awake_calls _).mono ?_
            rintro e w11 ⟨rfl, h2⟩
            have HA := Lib.hid (S11.out.keep h2)
            clear h2 S11
            go_wp2_with fail
            go_ret
            exact ⟨rfl, HA.out.below⟩
end Go.Proofs.Ytkkkncchinejmaa.TrL
