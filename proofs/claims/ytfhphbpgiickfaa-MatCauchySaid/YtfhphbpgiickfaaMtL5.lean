/- MatCauchy, walked. -/
import Derived.Test.YtfhphbpgiickfaaMtL3
import Derived.Test.YtfhphbpgiickfaaMtC
namespace Go.Proofs.Ytfhphbpgiickfaa.Mt
open Go Go.RowKit Go.Proofs.Ytfhphbpgiickfaa Go.Proofs.Ytfhphbpgiickfaa.Sp Go.Proofs.Ytfhphbpgiickfaa.Reg Go.Proofs.Ytfhphbpgiickfaa.Rd Go.Proofs.Ytfhphbpgiickfaa.Gf
/-- The bytes. -/
def cb (a s : Int) (i : Nat) : UInt8 := UInt8.ofNat ((a + s * i) % 256).toNat
theorem cb_inj {a t : Int} (_h0 : 0 ≤ t) (_h1 : t ≤ 14) {i k : Nat} (hi : i < 8) (hk : k < 8) (h : cb a (2 * t + 1) i = cb a (2 * t + 1) k) : i = k := by
  have e : (a + (2 * t + 1) * i) % 256 = (a + (2 * t + 1) * k) % 256 := by
    have := congrArg UInt8.toNat h
    unfold cb at this
    rw [UInt8.toNat_ofNat', UInt8.toNat_ofNat'] at this
    omega
  have d : ((2 * t + 1) * ((i : Int) - k)) % 256 = 0 := by
    rw [Int.mul_sub]
    omega
  have hd : ∃ d : Int, (i : Int) - k = d ∧ -7 ≤ d ∧ d ≤ 7 := ⟨_, rfl, by omega, by omega⟩
  obtain ⟨d', hd', b1, b2⟩ := hd
  rw [hd'] at d
  have : d' = 0 := by
    have : d' = -7 ∨ d' = -6 ∨ d' = -5 ∨ d' = -4 ∨ d' = -3 ∨ d' = -2 ∨ d' = -1 ∨ d' = 0 ∨ d' = 1 ∨ d' = 2 ∨ d' = 3 ∨ d' = 4 ∨ d' = 5 ∨ d' = 6 ∨ d' = 7 := by omega
    rcases this with rfl | rfl | rfl | rfl | rfl | rfl | rfl | rfl | rfl | rfl | rfl | rfl | rfl | rfl | rfl <;> omega
  omega
theorem wrap_mod (x : Int) : wrap64 x % 256 = x % 256 := by unfold wrap64; omega
theorem wrap_cb (a s : Int) (i : Nat) : wrap64 (a + wrap64 (s * (i : Int))) % 256 = ((cb a s i).toNat : Int) := by
  rw [wrap_mod]
  unfold cb
  rw [UInt8.toNat_ofNat']
  have := wrap_mod (s * (i : Int))
  omega
set_option maxRecDepth 100000 in
set_option maxHeartbeats 32000000 in
theorem cauchy_in (n a0 s0 : Int) (N : Nat) (t s : Int) (hs : t * 2 + 1 = s) (bs : 1 ≤ s ∧ s ≤ 29) (hN : bits .and .i64 n 3 = (N : Int) - 1) (hT : (bits .and .i64 s0 255).tmod 15 = t) (bN : 1 ≤ N ∧ N ≤ 4) (_ht : 0 ≤ t ∧ t ≤ 14) (HD : Hid (∀ i k, i < 8 → k < 8 → cb a0 s i = cb a0 s k → i = k)) (HI : Hid (∃ A Bm, gj N (cau (fun j => cb a0 s (N + j)) (cb a0 s)) N = some (A, Bm))) (w0 : World) :
    Calls Try.prog 9 #[.int .i64 n, .int .i64 a0, .int .i64 s0] w0 fun e w' => e = .returned (.bool true) ∧ Below w0.heap.size w0 w' := by
  have hNN : N * N ≤ 4 * 4 := Nat.mul_le_mul bN.2 bN.2
  go_enter Try.func9, Try.ntmps9
  go_wp2_with fail
  refine (newx w0 (St.init w0)).mono ?_
  rintro e w1 ⟨fb, rfl, s⟩
  have S := Lib.hid (s.rowNil 5 1)
  clear s
  go_wp2_with fail
  go_loopw [8, 9] (fun cv i wr => ∃ (p : Nat) (v : Value), p ≤ N ∧ i = .int .i64 p ∧ cv = v ∧ St w0.heap.size w0 wr (row 5 1 v (p * N) (bvs (cl p N (cau (fun j => cb a0 s (N + j)) (cb a0 s)))) * (fx fb * emp))) (fun _ i _ => N - (intOf i).toNat)
  case atStart => exact ⟨0, _, Nat.zero_le _, rfl, rfl, by rw [Nat.zero_mul, cl_one]; exact S.out⟩
  case round =>
    obtain ⟨p, v, hp, rfl, rfl, s1⟩ := hrel
    clear S
    have S := Lib.hid s1
    clear s1
    by_cases hlt : p < N
    · skip
      go_wp2_with fail
      go_loopw [8, 10] (fun cv i wr => ∃ (q : Nat) (v : Value), q ≤ N ∧ i = .int .i64 q ∧ cv = v ∧ St w0.heap.size w0 wr (row 5 1 v (p * N + q) (bvs ((List.range (p * N + q)).map (fm N (cau (fun j => cb a0 s (N + j)) (cb a0 s))))) * (fx fb * emp))) (fun _ i _ => N - (intOf i).toNat)
      case atStart => exact ⟨0, _, Nat.zero_le _, rfl, rfl, S.out⟩
      case round =>
        obtain ⟨q, v, hq, rfl, rfl, s1⟩ := hrel
        clear S
        obtain ⟨a2, c2, rfl, -⟩ := s1.rowSlice
        have S := Lib.hid s1
        clear s1
        by_cases hlt2 : q < N
        · skip
          have hw1 := wrap_cb a0 s p
          have hw2 := wrap_cb a0 s (N + q)
          rw [Int.natCast_add] at hw2
          have hx := bits_xor_u8' (cb a0 s p) (cb a0 s (N + q))
          have hne : cb a0 s p ^^^ cb a0 s (N + q) ≠ 0 := xor_ne (fun e => by have := HD.out p (N + q) (by omega) (by omega) e; omega)
          have HK := Lib.hid (show gok (cb a0 s p ^^^ cb a0 s (N + q)) = true by simp [gok, hne])
          have HX := Lib.hid (show bvs ((List.range (p * N + q)).map (fm N (cau (fun j => cb a0 s (N + j)) (cb a0 s)))) ++ [bv (ginv (cb a0 s p ^^^ cb a0 s (N + q)))] = bvs ((List.range (p * N + (q + 1))).map (fm N (cau (fun j => cb a0 s (N + j)) (cb a0 s)))) by
            rw [← Nat.add_assoc, List.range_succ, List.map_append, bvs, bvs, List.map_append]
            simp only [List.map_cons, List.map_nil]
            rw [fm_at _ hlt2]
            rfl)
          have hpq := at_lt hlt hlt2
          clear hne
          go_wp2_with fail
          refine (invx fb (cb a0 s p ^^^ cb a0 s (N + q)) _ (S.out.eq (sep_left_comm _ _ _))).mono ?_
          rw [HK.out]
          rintro e w3 ⟨rfl, s3⟩
          clear S hw1 hw2 hx HK
          generalize ginv (cb a0 s p ^^^ cb a0 s (N + q)) = xx at HX
          have s4 := (s3.alloc (.cells #[bv xx] 5)).eq (Q := row 5 1 (.slice a2 (p * N + q) c2) (p * N + q) (bvs ((List.range (p * N + q)).map (fm N (cau (fun j => cb a0 s (N + j)) (cb a0 s))))) * (pts w3.heap.size (.cells #[bv xx] 5) * (fx fb * emp))) (by ac_rfl)
          have S4 := Lib.hid s4
          have hrd := Lib.hid (Rd.new w3 #[bv xx] 5)
          clear s3 s4
          go_wp2_with (at_builtin; go_must (refine wpl_append rfl _ _ rfl tB S4.out (some ⟨w3.heap.size, 0, none⟩) 1 1 [bv xx] rfl rfl hrd.out (fun e => by cases e) (by simp) (by simp [Value.oneCell']) (by unfold maxLen; omega) (by omega) ?_); intro v5 w5 s5 _; rw [HX.out, Nat.add_assoc] at s5; have S6 := Lib.hid ((s5.eq (sep_left_comm _ _ _)).right); clear s5 S4 hrd HX)
          go_roundw
          case rel => exact ⟨q + 1, v5, by omega, by go_num, rfl, S6.out⟩
          case measure => simp [intOf]; omega
        · obtain rfl : q = N := by omega
          go_wp2_with fail
          go_roundw
          case rel => exact ⟨p + 1, _, by omega, by go_num, rfl, by unfold cl; rw [Nat.succ_mul]; exact S.out⟩
          case measure => simp [intOf]; omega
    · obtain rfl : p = N := by omega
      obtain ⟨A, Bm, hg⟩ := HI.out
      have HG := Lib.hid hg
      have HU := Lib.hid (show cl p p (mmul p (cau (fun j => cb a0 s (p + j)) (cb a0 s)) Bm) = cl p p unit from cl_congr fun i j hi hj => (gj_some hg).2.1 i j hi hj)
      clear hg HI
      obtain ⟨a2, c2, rfl, -⟩ := S.out.rowSlice
      go_wp2_with fail
      refine (new_m fb p p (cau (fun j => cb a0 s (p + j)) (cb a0 s)) a2 (p * p) c2 (by omega) (by omega) _ S.out.bs S.out).mono ?_
      rintro e w3 ⟨pb, gb, kb, rfl, s3⟩
      clear S
      have S := Lib.hid ((s3.eq (Q := row 5 1 (.slice a2 (p * p) c2) (p * p) (bvs (cl p p (cau (fun j => cb a0 s (p + j)) (cb a0 s)))) * (fx fb * (mo pb gb kb fb p p (cau (fun j => cb a0 s (p + j)) (cb a0 s)) * emp))) (by ac_rfl)).right)
      clear s3
      go_wp2_with fail
      refine (inv_calls pb gb kb fb p (cau (fun j => cb a0 s (p + j)) (cb a0 s)) (by omega) _ S.out).mono ?_
      unfold InvP
      rw [HG.out]
      rintro e w4 ⟨pi, rfl, s4⟩
      obtain ⟨gi, ki, s4⟩ := mt_open s4
      clear S
      have S := Lib.hid (s4.eq (Q := fx fb * (mo pb gb kb fb p p (cau (fun j => cb a0 s (p + j)) (cb a0 s)) * (mo pi gi ki fb p p Bm * emp))) (by ac_rfl))
      clear s4
      go_wp2_with fail
      refine (mul_good pb gb kb fb p p (cau (fun j => cb a0 s (p + j)) (cb a0 s)) pi gi ki fb p Bm (by omega) (by omega) (by omega) _ S.out).mono ?_
      rintro e w5 ⟨pp, rfl, s5⟩
      obtain ⟨gp, kp, s5⟩ := mt_open (mt_congr s5 HU.out)
      clear S
      have S := Lib.hid s5
      clear s5
      go_wp2_with fail
      refine (runit_calls p (by omega) _ S.out).mono ?_
      rintro e w6 ⟨gr, rfl, s6⟩
      clear S
      have S := Lib.hid (s6.eq (sep_left_comm _ _ _))
      clear s6
      go_wp2_with fail
      refine (same_true pp gp kp fb p p unit (by omega) gr (p * p) _ (fun w H s => (s.eq (sep_left_comm _ _ _)).bs) S.out).mono ?_
      rintro e w7 ⟨rfl, s7⟩
      clear S
      have S := Lib.hid s7
      clear s7
      go_wp2_with fail
      refine (awakex _ S.out).mono ?_
      rintro e wq ⟨rfl, sq⟩
      clear S
      have S := Lib.hid sq
      clear sq
      go_wp2_with fail
      go_ret
      exact ⟨rfl, S.out.below⟩
theorem cauchy_walk (n a0 s0 : Int) (w0 : World) (_wn : (Lit.int .i64 n).wf = true) (_wa : (Lit.int .i64 a0).wf = true) (_ws : (Lit.int .i64 s0).wf = true) :
    Calls Try.prog 9 #[.int .i64 n, .int .i64 a0, .int .i64 s0] w0 fun e w' => e = .returned (.bool true) ∧ Below w0.heap.size w0 w' := by
  have h3 := and_m2 n
  have h8 := and_m8 s0
  have ht : (bits .and .i64 s0 255).tmod 15 = s0 % 256 % 15 := by rw [h8]; exact Int.tmod_eq_emod_of_nonneg (by omega)
  have hinj : ∀ i k, i < 8 → k < 8 → cb a0 (s0 % 256 % 15 * 2 + 1) i = cb a0 (s0 % 256 % 15 * 2 + 1) k → i = k := fun i k hi hk h => by
    rw [Int.mul_comm] at h
    exact cb_inj (t := s0 % 256 % 15) (by omega) (by omega) hi hk h
  refine cauchy_in n a0 s0 ((n % 4).toNat + 1) (s0 % 256 % 15) _ rfl (by omega) (by rw [h3]; omega) ht (by omega) (by omega) ?_ ?_ w0
  · exact Lib.hid hinj
  · exact Lib.hid (gj_of_inj (cau_inj (fun i j hi hj e => by have := hinj _ _ (by omega) (by omega) e; omega) (fun i j hi hj e => hinj _ _ (by omega) (by omega) e) (fun i j hi hj e => by have := hinj _ _ (by omega) (by omega) e; omega)))
end Go.Proofs.Ytfhphbpgiickfaa.Mt
