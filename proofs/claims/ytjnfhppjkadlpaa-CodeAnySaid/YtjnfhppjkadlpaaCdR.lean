/- The code laws' Made: a code made of numbers. No condition. -/
import Derived.Test.YtjnfhppjkadlpaaCdM
import Derived.Test.YtjnfhppjkadlpaaMgB
set_option linter.unusedSimpArgs false
set_option linter.unusedVariables false
namespace Go.Proofs.Ytjnfhppjkadlpaa.Cd
open Go Go.RowKit Go.Proofs.Ytjnfhppjkadlpaa Go.Proofs.Ytjnfhppjkadlpaa.Sp Go.Proofs.Ytjnfhppjkadlpaa.Reg Go.Proofs.Ytjnfhppjkadlpaa.SlW Go.Proofs.Ytjnfhppjkadlpaa.Rd Go.Proofs.Ytjnfhppjkadlpaa.Obr
/-- Its bytes. -/
def mb (a : Int) (i : Nat) : UInt8 := UInt8.ofNat ((a + 7 * (i : Int)) % 256).toNat
def ms (a : Int) (f n : Nat) : List UInt8 := (List.range n).map fun i => mb a (f + i)
theorem ms_len (a : Int) (f n : Nat) : (ms a f n).length = n := by simp [ms]
theorem ms_succ (a : Int) (f n : Nat) : ms a f (n + 1) = ms a f n ++ [mb a (f + n)] := by simp [ms, List.range_succ]
theorem mb_nat (a : Int) (i : Nat) : ((mb a i).toNat : Int) = (a + 7 * (i : Int)) % 256 := by
  unfold mb
  rw [UInt8.toNat_ofNat']
  omega
theorem wrap_mb (a : Int) (i : Nat) : wrap64 (a + 7 * (i : Int)) % 256 = ((mb a i).toNat : Int) := by
  rw [mb_nat]
  unfold wrap64
  omega
theorem mb_inj {a : Int} {i j : Nat} (hi : i < 18) (hj : j < 18) (h : mb a i = mb a j) : i = j := by
  have e : (a + 7 * (i : Int)) % 256 = (a + 7 * (j : Int)) % 256 := by rw [← mb_nat, ← mb_nat, h]
  omega
theorem good_m (a : Int) {k r : Nat} (hk : 1 ≤ k ∧ k ≤ 14) (hr : 1 ≤ r ∧ r ≤ 4) : Cd.Good (ms a 0 k) (ms a k r) := by
  refine ⟨by rw [ms_len]; exact hk.1, by rw [ms_len]; exact hk.2, by rw [ms_len]; exact hr.1, by rw [ms_len]; exact hr.2, ?_⟩
  have e : ms a 0 k ++ ms a k r = (List.range (k + r)).map (mb a) := by
    unfold ms
    rw [List.range_add, List.map_append, List.map_map]
    congr 1
    exact List.map_congr_left fun i _ => by rw [Nat.zero_add]
  rw [e]
  refine List.pairwise_map.2 (List.pairwise_iff_getElem.2 fun i j hi hj hij h => ?_)
  simp only [List.getElem_range] at h
  have hi' : i < k + r := by simpa using hi
  have hj' : j < k + r := by simpa using hj
  have := mb_inj (by omega) (by omega) h
  omega
section
variable {B : Nat} {w0 : World} {R : HP}
set_option maxRecDepth 100000 in
set_option maxHeartbeats 8000000 in
theorem made_calls (a0 a1 a : Int) (K r : Nat) (hK : 1 ≤ K ∧ K ≤ 14) (hr : 1 ≤ r ∧ r ≤ 4) (e0 : (bits .and .i64 a0 255).tmod 14 = (K : Int) - 1) (e1 : bits .and .i64 a1 3 = (r : Int) - 1) (w : World) (s : St B w0 w R) :
    Calls Try.prog 26 #[.int .i64 a0, .int .i64 a1, .int .i64 a] w fun e w' => ∃ v1 v2, e = .returned (.agg #[v1, v2]) ∧ St B w0 w' (row 5 1 v1 K (bvs (ms a 0 K)) * (row 5 1 v2 r (bvs (ms a K r)) * R)) := by
  obtain ⟨hK1, hK2⟩ := hK
  obtain ⟨hr1, hr2⟩ := hr
  have S := Lib.hid s
  clear s
  go_enter Try.func26, Try.ntmps26
  go_wp2_with fail
  have s1 := S.out.alloc (.cells #[.slice none 0 0, .slice none 0 0] 51)
  have s2 := s1.alloc (.cells #[.slice none 0 0, .slice none 0 0] 51)
  rw [show (w.alloc (.cells #[.slice none 0 0, .slice none 0 0] 51)).heap.size = w.heap.size + 1 by simp] at s2
  have S3 := Lib.hid (((s2.rowNil 5 1).rowNil 5 1).eq (Q := pts (w.heap.size + 1) (.cells #[.slice none 0 0, .slice none 0 0] 51) * (row 5 1 (.slice none 0 0) 0 [] * (row 5 1 (.slice none 0 0) 0 [] * (pts w.heap.size (.cells #[.slice none 0 0, .slice none 0 0] 51) * R)))) (by ac_rfl))
  clear S s1 s2 e0 e1
  generalize w.heap.size = b6 at *
  go_loopw [8] (fun ii wr => ∃ (i p q : Nat) (X Y : Value), i ≤ K + r ∧ ii = .int .i64 (i : Int) ∧ p = min i K ∧ q = i - K ∧ St B w0 wr (pts (b6 + 1) (.cells #[X, Y] 51) * (row 5 1 X p (bvs (ms a 0 p)) * (row 5 1 Y q (bvs (ms a K q)) * (pts b6 (.cells #[.slice none 0 0, .slice none 0 0] 51) * R))))) (fun ii _ => K + r - (intOf ii).toNat)
  case atStart => exact ⟨0, 0, 0, _, _, Nat.zero_le _, rfl, by omega, by omega, S3.out⟩
  case round =>
    obtain ⟨i, p, q, X, Y, hi, rfl, hp, hq, s4⟩ := hrel
    clear S3
    obtain ⟨ax, cx, rfl, -⟩ := s4.right.rowSlice
    obtain ⟨ay, cy, rfl, -⟩ := s4.right.right.rowSlice
    have kx := s4.cell 0
    have ky := s4.cell 1
    simp at kx ky
    by_cases hlt : i < K + r
    · have hltI : (i : Int) < (K : Int) + (r : Int) := by omega
      have hw := wrap_mb a i
      by_cases hk : i < K
      · have hkI : (i : Int) < (K : Int) := by omega
        obtain rfl : p = i := by omega
        obtain rfl : q = 0 := by omega
        have HX := Lib.hid (show bvs (ms a 0 p) ++ [bv (mb a p)] = bvs (ms a 0 (p + 1)) from by rw [ms_succ, Nat.zero_add]; simp [bvs])
        generalize mb a p = x at *
        have S4 := Lib.hid ((s4.alloc (.cells #[bv x] 5)).eq (Q := row 5 1 (.slice ax p cx) p (bvs (ms a 0 p)) * (pts wr.heap.size (.cells #[bv x] 5) * (pts (b6 + 1) (.cells #[.slice ax p cx, .slice ay 0 cy] 51) * (row 5 1 (.slice ay 0 cy) 0 (bvs (ms a K 0)) * (pts b6 (.cells #[.slice none 0 0, .slice none 0 0] 51) * R))))) (by ac_rfl))
        have hrd := Lib.hid (Rd.new wr #[bv x] 5)
        clear s4 hp hq
        go_wp2_with (at_builtin; go_must (refine wpl_append rfl _ _ rfl tB S4.out (some ⟨wr.heap.size, 0, none⟩) 1 1 [bv x] rfl rfl hrd.out (fun e => by cases e) (by simp) (by simp [Value.oneCell']) (by unfold maxLen; omega) (by omega) ?_); intro v5 w5 s5 _; rw [HX.out] at s5; obtain ⟨a5, c5, rfl, -⟩ := s5.rowSlice; have s6 := s5.eq (Q := pts (b6 + 1) (.cells #[.slice ax p cx, .slice ay 0 cy] 51) * (row 5 1 (.slice a5 (p + 1) c5) (p + 1) (bvs (ms a 0 (p + 1))) * (row 5 1 (.slice ay 0 cy) 0 (bvs (ms a K 0)) * (pts wr.heap.size (.cells #[bv x] 5) * (pts b6 (.cells #[.slice none 0 0, .slice none 0 0] 51) * R))))) (by ac_rfl); have cc := s6.cell 0; have ff := s6.free 0; simp at cc; have S6 := Lib.hid ((s6.set 0 (.slice a5 (p + 1) c5)).eq (Q := pts wr.heap.size (.cells #[bv x] 5) * (pts (b6 + 1) (.cells #[.slice a5 (p + 1) c5, .slice ay 0 cy] 51) * (row 5 1 (.slice a5 (p + 1) c5) (p + 1) (bvs (ms a 0 (p + 1))) * (row 5 1 (.slice ay 0 cy) 0 (bvs (ms a K 0)) * (pts b6 (.cells #[.slice none 0 0, .slice none 0 0] 51) * R))))) (by simp; ac_rfl)).right; clear s5 s6 S4 hrd HX kx ky)
        go_roundw
        case rel => exact ⟨p + 1, p + 1, 0, _, _, by omega, by go_num, by omega, by omega, S6.out⟩
        case measure => simp [intOf]; omega
      · have hkI : ¬ (i : Int) < (K : Int) := by omega
        obtain rfl : p = K := by omega
        have HX := Lib.hid (show bvs (ms a p q) ++ [bv (mb a i)] = bvs (ms a p (q + 1)) from by rw [ms_succ, show p + q = i by omega]; simp [bvs])
        generalize mb a i = x at *
        have S4 := Lib.hid ((s4.alloc (.cells #[bv x] 5)).eq (Q := row 5 1 (.slice ay q cy) q (bvs (ms a p q)) * (pts wr.heap.size (.cells #[bv x] 5) * (pts (b6 + 1) (.cells #[.slice ax p cx, .slice ay q cy] 51) * (row 5 1 (.slice ax p cx) p (bvs (ms a 0 p)) * (pts b6 (.cells #[.slice none 0 0, .slice none 0 0] 51) * R))))) (by ac_rfl))
        have hrd := Lib.hid (Rd.new wr #[bv x] 5)
        have HQ := Lib.hid hq
        have hqb : q ≤ 4 := by omega
        clear s4 hp hq
        go_wp2_with (at_builtin; go_must (refine wpl_append rfl _ _ rfl tB S4.out (some ⟨wr.heap.size, 0, none⟩) 1 1 [bv x] rfl rfl hrd.out (fun e => by cases e) (by simp) (by simp [Value.oneCell']) (by unfold maxLen; omega) (by omega) ?_); intro v5 w5 s5 _; rw [HX.out] at s5; obtain ⟨a5, c5, rfl, -⟩ := s5.rowSlice; have s6 := s5.eq (Q := pts (b6 + 1) (.cells #[.slice ax p cx, .slice ay q cy] 51) * (row 5 1 (.slice a5 (q + 1) c5) (q + 1) (bvs (ms a p (q + 1))) * (row 5 1 (.slice ax p cx) p (bvs (ms a 0 p)) * (pts wr.heap.size (.cells #[bv x] 5) * (pts b6 (.cells #[.slice none 0 0, .slice none 0 0] 51) * R))))) (by ac_rfl); have cc := s6.cell 1; have ff := s6.free 1; simp at cc; have S6 := Lib.hid ((s6.set 1 (.slice a5 (q + 1) c5)).eq (Q := pts wr.heap.size (.cells #[bv x] 5) * (pts (b6 + 1) (.cells #[.slice ax p cx, .slice a5 (q + 1) c5] 51) * (row 5 1 (.slice ax p cx) p (bvs (ms a 0 p)) * (row 5 1 (.slice a5 (q + 1) c5) (q + 1) (bvs (ms a p (q + 1))) * (pts b6 (.cells #[.slice none 0 0, .slice none 0 0] 51) * R))))) (by simp; ac_rfl)).right; clear s5 s6 S4 hrd HX kx ky)
        go_roundw
        case rel => exact ⟨i + 1, p, q + 1, _, _, by omega, by go_num, by omega, by have := HQ.out; omega, S6.out⟩
        case measure => simp [intOf]; omega
    · obtain rfl : p = K := by omega
      obtain rfl : q = r := by omega
      have hltI : ¬ (i : Int) < (p : Int) + (q : Int) := by omega
      have s5 := s4.eq (Q := pts b6 (.cells #[.slice none 0 0, .slice none 0 0] 51) * (pts (b6 + 1) (.cells #[.slice ax p cx, .slice ay q cy] 51) * (row 5 1 (.slice ax p cx) p (bvs (ms a 0 p)) * (row 5 1 (.slice ay q cy) q (bvs (ms a p q)) * R)))) (by ac_rfl)
      have hX := hp
      clear hp hq hX
      have e0 := s5.cell 0
      have e1 := s5.cell 1
      have f0 := s5.free 0
      have f1 := s5.free 1
      simp at e0 e1
      have s9 := (s5.set 0 (.slice ax p cx)).set 1 (.slice ay q cy)
      have z0 := s9.cell 0
      have z1 := s9.cell 1
      simp at z0 z1
      have Z := Lib.hid (And.intro z0 z1)
      have S9 := Lib.hid s9.right.right
      clear s4 s5 s9 z0 z1
      go_wp2_with fail
      refine bodyPost_ret (v := .agg #[.slice ax p cx, .slice ay q cy]) (by simp [results, Try.results26, go_sem, Z.out.1, Z.out.2]) rfl ?_
      exact ⟨_, _, rfl, S9.out⟩
end
end Go.Proofs.Ytjnfhppjkadlpaa.Cd
