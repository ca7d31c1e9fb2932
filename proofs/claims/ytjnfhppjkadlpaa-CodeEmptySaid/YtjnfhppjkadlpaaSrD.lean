/- Go's sort of a row of bytes: the pivot, the patterns. No condition. -/
import Derived.Test.YtjnfhppjkadlpaaSrC
import Derived.Sort.LotD4
set_option linter.unusedSimpArgs false
set_option linter.unusedVariables false
namespace Go.Proofs.Ytjnfhppjkadlpaa.SrA
open Go Go.RowKit Go.Sort Go.Proofs.Ytjnfhppjkadlpaa Go.Proofs.Ytjnfhppjkadlpaa.Sp
theorem less_eq {x y : UInt8} {b : Bool} (h : ltU x y = b) (w : World) : Calls Try.prog 83 #[bv x, bv y] w fun e w' => e = .returned (.bool b) ∧ w' = w := by
  rw [← h]; exact less_calls x y w
/-- A cell with a number. -/
def num (p : Nat) (k : Int) : HP := pts p (.cells #[.int .i64 k] 3 (0, 0))
section
variable {B : Nat} {w0 : World} {R : HP}
set_option maxRecDepth 100000 in
set_option maxHeartbeats 4000000 in
theorem ord2_calls (g n c i j p k : Nat) (d : Array UInt8) (X : List Value) (hn : d.size = n) (hs : n ≤ 1000000) (hi : i < n) (hj : j < n) (hk : k ≤ 1000) (w : World) (s : St B w0 w (arr g d X * (num p k * R))) :
    Calls Try.prog 107 #[.slice (some ⟨g, 0, none⟩) n c, .int .i64 i, .int .i64 j, .pointer (some ⟨p, 0, none⟩)] w fun e w' => e = .returned (.tuple #[.int .i64 (order2 ltU d i j k).1, .int .i64 (order2 ltU d i j k).2.1]) ∧ St B w0 w' (arr g d X * (num p (order2 ltU d i j k).2.2 * R)) := by
  have c0 := arr_fam s i (by omega)
  have c1 := arr_fam s j (by omega)
  obtain ⟨G, hG⟩ : ∃ G : Nat → UInt8, ∀ t, G t = d[t]! := ⟨fun t => d[t]!, fun _ => rfl⟩
  rw [← hG] at c0 c1
  have s1 : St B w0 w (pts p (.cells #[.int .i64 k] 3 (0, 0)) * (arr g d X * R)) := s.eq (sep_left_comm _ _ _)
  have c2 := St.cell s1 0
  have f2 := St.free s1 0
  simp at c2
  have e : order2 ltU d i j k = if ltU (G j) (G i) = true then (j, i, k + 1) else (i, j, k) := by unfold order2; rw [hG, hG]
  rw [e]
  have S1 := Lib.hid s1
  cases hl : ltU (G j) (G i) with
  | true =>
    rw [if_pos rfl]
    clear s s1 hG e
    have Hn := Lib.hid hn
    clear hn
    go_enter Try.func107, Try.ntmps107
    go_wp2_with fail
    go_quiet (first | (go_at_call 83; refine Calls.quiet_of_same (less_eq hl _)))
    go_wp2_with fail
    go_ret2
    have q := St.set (S1.out.drewN nq) 0 (.int .i64 ((k : Int) + 1))
    exact ⟨rfl, St.eq (sep_left_comm _ _ _) (show St B w0 _ (num p ((k + 1 : Nat) : Int) * (arr g d X * R)) from q)⟩
  | false =>
    rw [if_neg (by simp)]
    clear s s1 hG e
    have Hn := Lib.hid hn
    clear hn
    go_enter Try.func107, Try.ntmps107
    go_wp2_with fail
    go_quiet (first | (go_at_call 83; refine Calls.quiet_of_same (less_eq hl _)))
    go_wp2_with fail
    go_ret2
    exact ⟨rfl, (S1.out.drewN nq).eq (sep_left_comm _ _ _)⟩
theorem ord2_lt (d : Array UInt8) {i j n : Nat} (k : Nat) (hi : i < n) (hj : j < n) : (order2 ltU d i j k).1 < n ∧ (order2 ltU d i j k).2.1 < n ∧ (order2 ltU d i j k).2.2 ≤ k + 1 := by
  unfold order2
  split
  · exact ⟨hj, hi, Nat.le_refl _⟩
  · exact ⟨hi, hj, Nat.le_succ _⟩
set_option maxRecDepth 100000 in
set_option maxHeartbeats 4000000 in
theorem med_calls (g n c i j l p k : Nat) (d : Array UInt8) (X : List Value) (hn : d.size = n) (hs : n ≤ 1000000) (hi : i < n) (hj : j < n) (hl : l < n) (hk : k ≤ 100) (w : World) (s : St B w0 w (arr g d X * (num p k * R))) :
    Calls Try.prog 100 #[.slice (some ⟨g, 0, none⟩) n c, .int .i64 i, .int .i64 j, .int .i64 l, .pointer (some ⟨p, 0, none⟩)] w fun e w' => e = .returned (.int .i64 (median ltU d i j l k).1) ∧ St B w0 w' (arr g d X * (num p (median ltU d i j l k).2 * R)) := by
  have e : median ltU d i j l k = ((order2 ltU d (order2 ltU d i j k).1 (order2 ltU d (order2 ltU d i j k).2.1 l (order2 ltU d i j k).2.2).1 (order2 ltU d (order2 ltU d i j k).2.1 l (order2 ltU d i j k).2.2).2.2).2.1, (order2 ltU d (order2 ltU d i j k).1 (order2 ltU d (order2 ltU d i j k).2.1 l (order2 ltU d i j k).2.2).1 (order2 ltU d (order2 ltU d i j k).2.1 l (order2 ltU d i j k).2.2).2.2).2.2) := rfl
  rw [e]
  obtain ⟨a1, a2, a3⟩ := ord2_lt d k hi hj
  have Q1 := Lib.hid (ord2_calls g n c i j p k d X hn hs hi hj (by omega) w s)
  generalize order2 ltU d i j k = r1 at *
  obtain ⟨x1, y1, k1⟩ := r1
  simp only at a1 a2 a3
  obtain ⟨b1, b2, b3⟩ := ord2_lt d k1 a2 hl
  have Q2 := Lib.hid (fun w s => ord2_calls (B := B) (w0 := w0) (R := R) g n c y1 l p k1 d X hn hs a2 hl (by omega) w s)
  simp only
  generalize order2 ltU d y1 l k1 = r2 at *
  obtain ⟨x2, y2, k2⟩ := r2
  simp only at b1 b2 b3
  have Q3 := Lib.hid (fun w s => ord2_calls (B := B) (w0 := w0) (R := R) g n c x1 x2 p k2 d X hn hs a1 b1 (by omega) w s)
  simp only
  generalize order2 ltU d x1 x2 k2 = r3 at *
  obtain ⟨x3, y3, k3⟩ := r3
  clear s e
  have Hn := Lib.hid hn
  clear hn
  go_enter Try.func100, Try.ntmps100
  go_wp2_with fail
  refine Q1.out.mono ?_
  rintro e w1 ⟨rfl, s1⟩
  have S1 := Lib.hid s1
  clear s1 Q1
  go_wp2_with fail
  refine (Q2.out _ S1.out).mono ?_
  rintro e w2 ⟨rfl, s2⟩
  have S2 := Lib.hid s2
  clear s2 Q2 S1
  go_wp2_with fail
  refine (Q3.out _ S2.out).mono ?_
  rintro e w3 ⟨rfl, s3⟩
  have S3 := Lib.hid s3
  clear s3 Q3 S2
  go_wp2_with fail
  go_ret
  exact ⟨rfl, S3.out⟩
/-- A hint, as Go has it. -/
def hintV : Hint → Int
  | .unknown => 0
  | .increasing => 1
  | .decreasing => 2
set_option maxRecDepth 100000 in
set_option maxHeartbeats 4000000 in
theorem piv_calls (g n c a b : Nat) (d : Array UInt8) (X : List Value) (hn : d.size = n) (hs : n ≤ 49) (hab : a + 8 ≤ b) (hb : b ≤ n) (w : World) (s : St B w0 w (arr g d X * R)) :
    Calls Try.prog 80 #[.slice (some ⟨g, 0, none⟩) n c, .int .i64 a, .int .i64 b] w fun e w' => e = .returned (.tuple #[.int .i64 (choosePivot ltU d a b).1, .int .i64 (hintV (choosePivot ltU d a b).2)]) ∧ St B w0 w' (arr g d X * R) := by
  obtain ⟨l, rfl⟩ : ∃ l, b = a + l := ⟨b - a, by omega⟩
  have e : choosePivot ltU d a (a + l) = ((median ltU d (a + l / 4 * 1) (a + l / 4 * 2) (a + l / 4 * 3) 0).1, if (median ltU d (a + l / 4 * 1) (a + l / 4 * 2) (a + l / 4 * 3) 0).2 = 0 then .increasing else if (median ltU d (a + l / 4 * 1) (a + l / 4 * 2) (a + l / 4 * 3) 0).2 = 12 then .decreasing else .unknown) := by
    unfold choosePivot
    rw [show a + l - a = l by omega]
    simp only
    rw [if_pos (show l ≥ 8 by omega), if_neg (show ¬ l ≥ 50 by omega)]
  rw [e]
  have hdv : Int.tdiv (l : Int) 4 = ((l / 4 : Nat) : Int) := by rw [Int.tdiv_eq_ediv_of_nonneg (by omega)]; omega
  have Q1 := Lib.hid (fun p w s => med_calls (B := B) (w0 := w0) (R := R) g n c (a + l / 4 * 1) (a + l / 4 * 2) (a + l / 4 * 3) p 0 d X hn (by omega) (by omega) (by omega) (by omega) (by omega) w s)
  have hq := Go.Sort.median_count (lt := ltU) d (a + l / 4 * 1) (a + l / 4 * 2) (a + l / 4 * 3) 0
  generalize median ltU d (a + l / 4 * 1) (a + l / 4 * 2) (a + l / 4 * 3) 0 = r at *
  obtain ⟨x, k⟩ := r
  have s1 := s.alloc (.cells #[.int .i64 0] 3)
  have S1 := Lib.hid (show St B w0 _ (arr g d X * (num w.heap.size (0 : Nat) * R)) from s1.eq (sep_left_comm _ _ _))
  have hq4 : l / 4 ≤ 12 := by omega
  have hqe : ((a : Int) + (l : Int) - (a : Int)) / 4 = ((l / 4 : Nat) : Int) := by omega
  generalize l / 4 = q at *
  have q1 := Q1.out w.heap.size _ S1.out
  rw [show ((a + q * 1 : Nat) : Int) = (a : Int) + (q : Int) by omega, show ((a + q * 2 : Nat) : Int) = (a : Int) + (q : Int) * 2 by omega, show ((a + q * 3 : Nat) : Int) = (a : Int) + (q : Int) * 3 by omega] at q1
  have Q2 := Lib.hid q1
  clear s s1 e q1 Q1
  simp only at hq
  have HQ := Lib.hid hqe
  clear hqe hdv
  have Hn := Lib.hid hn
  clear hn
  go_enter Try.func80, Try.ntmps80
  go_wp2_with fail
  rw [HQ.out]
  refine Q2.out.mono ?_
  rintro e w2 ⟨rfl, s2⟩
  have c2 := St.cell (s2.eq (Q := pts w.heap.size (.cells #[.int .i64 k] 3 (0, 0)) * (arr g d X * R)) (sep_left_comm _ _ _)) 0
  simp at c2
  have S2 := Lib.hid (s2.eq (Q := num w.heap.size k * (arr g d X * R)) (sep_left_comm _ _ _)).right
  clear s2 Q2 S1 HQ
  simp only
  by_cases hk0 : k = 0
  · subst hk0
    go_wp2_with fail
    go_ret2
    exact ⟨rfl, S2.out⟩
  · have h0 : ((k : Int) == 0) = false := by simp; omega
    have h12 : ((k : Int) == 12) = false := by simp; omega
    have HK := Lib.hid hk0
    clear hk0
    go_wp2_with fail
    go_ret2
    exact ⟨rfl, S2.out⟩
theorem piv_hint (d : Array UInt8) {a b : Nat} (h1 : a + 8 ≤ b) (h2 : b < a + 50) : (choosePivot ltU d a b).2 ≠ .decreasing := by
  obtain ⟨l, rfl⟩ : ∃ l, b = a + l := ⟨b - a, by omega⟩
  have hq := Go.Sort.median_count (lt := ltU) d (a + l / 4 * 1) (a + l / 4 * 2) (a + l / 4 * 3) 0
  unfold choosePivot
  rw [show a + l - a = l by omega]
  simp only
  rw [if_pos (show l ≥ 8 by omega), if_neg (show ¬ l ≥ 50 by omega)]
  split
  · simp
  · rw [if_neg (by omega)]; simp
/-! ### the patterns -/
set_option maxRecDepth 100000 in
set_option maxHeartbeats 4000000 in
/-- The next random number: any; its cell holds some. -/
theorem next_calls (p : Nat) (z : Int) (w : World) (s : St B w0 w (pts p (.cells #[.int .u64 z] 151 (0, 0)) * R)) :
    Calls Try.prog 98 #[.pointer (some ⟨p, 0, none⟩)] w fun e w' => ∃ y : Int, e = .returned (.int .u64 y) ∧ St B w0 w' (pts p (.cells #[.int .u64 y] 151 (0, 0)) * R) := by
  have c0 := s.cell 0
  have f0 := s.free 0
  simp at c0
  have S := Lib.hid s
  clear s
  go_enter Try.func98, Try.ntmps98
  go_wp2_with fail
  go_region
  all_goals go_wp2_with fail
  generalize bits .xor .u64 _ _ = y1
  have s1 := (S.out.set 0 (.int .u64 y1)).drew
  generalize (w.setCell _ _).drew = w1 at s1 ⊢
  clear S c0 f0
  have c0 := St.cell s1 0
  have f0 := St.free s1 0
  simp at c0
  have S := Lib.hid s1
  clear s1
  go_region
  all_goals go_wp2_with fail
  generalize bits .xor .u64 _ _ = y2
  have s1 := (S.out.set 0 (.int .u64 y2)).drew
  simp only [List.setIfInBounds_toArray, List.set_cons_zero] at s1
  generalize (w1.setCell _ _).drew = w2 at s1 ⊢
  clear S c0 f0
  have c0 := St.cell s1 0
  have f0 := St.free s1 0
  simp at c0
  have S := Lib.hid s1
  clear s1
  go_region
  all_goals go_wp2_with fail
  generalize bits .xor .u64 _ _ = y3
  have s1 := (S.out.set 0 (.int .u64 y3)).drew
  simp only [List.setIfInBounds_toArray, List.set_cons_zero] at s1
  generalize (w2.setCell _ _).drew = w3 at s1 ⊢
  clear S c0 f0
  have c0 := St.cell s1 0
  simp at c0
  have S := Lib.hid s1
  clear s1
  go_wp2_with fail
  go_ret
  exact ⟨y3, rfl, S.out⟩
theorem small19 {n : Nat} (h : n ≤ 18) : n = 0 ∨ n = 1 ∨ n = 2 ∨ n = 3 ∨ n = 4 ∨ n = 5 ∨ n = 6 ∨ n = 7 ∨ n = 8 ∨ n = 9 ∨ n = 10 ∨ n = 11 ∨ n = 12 ∨ n = 13 ∨ n = 14 ∨ n = 15 ∨ n = 16 ∨ n = 17 ∨ n = 18 := by omega
set_option maxRecDepth 100000 in
set_option maxHeartbeats 4000000 in
theorem len_calls (n : Nat) (hn : n ≤ 18) (w : World) : Calls Try.prog 69 #[.int .u64 (n : Int)] w fun e w' => e = .returned (.int .i64 (bitsLen n)) ∧ w' = w := by
  have q : Calls Try.prog 87 #[.int .u64 (n : Int)] w fun e w' => e = .returned (.int .i64 (bitsLen n)) ∧ w' = w := by
    rcases small19 hn with rfl | rfl | rfl | rfl | rfl | rfl | rfl | rfl | rfl | rfl | rfl | rfl | rfl | rfl | rfl | rfl | rfl | rfl | rfl
    all_goals
      go_enter Try.func87, Try.ntmps87
      go_wp2_with fail
      go_ret
      exact ⟨by kernel_rfl, rfl⟩
  have Q := Lib.hid q
  clear q
  go_enter Try.func69, Try.ntmps69
  go_wp2_with fail
  refine Q.out.mono ?_
  rintro e w' ⟨rfl, rfl⟩
  clear Q
  go_wp2_with fail
  go_ret
  exact ⟨rfl, rfl⟩
theorem npow_calls (n : Nat) (h1 : 8 ≤ n) (hn : n ≤ 18) (w : World) : Calls Try.prog 97 #[.int .i64 (n : Int)] w fun e w' => (∃ m : Nat, e = .returned (.int .u64 ((m : Int) + 1)) ∧ (m = 15 ∨ m = 31) ∧ m < 2 * n) ∧ w' = w := by
  have Q := Lib.hid (len_calls n hn w)
  have hb : bitsLen n = 4 ∧ n ≤ 15 ∨ bitsLen n = 5 ∧ 16 ≤ n := by
    rcases small19 hn with rfl | rfl | rfl | rfl | rfl | rfl | rfl | rfl | rfl | rfl | rfl | rfl | rfl | rfl | rfl | rfl | rfl | rfl | rfl
    all_goals first | (exfalso; omega) | exact .inl (by decide +kernel) | exact .inr (by decide +kernel)
  rcases hb with ⟨hb, hx⟩ | ⟨hb, hx⟩
  · rw [hb] at Q
    go_enter Try.func97, Try.ntmps97
    go_wp2_with fail
    refine Q.out.mono ?_
    rintro e w' ⟨rfl, rfl⟩
    clear Q hb
    go_wp2_with fail
    go_ret
    exact ⟨⟨15, rfl, .inl rfl, by omega⟩, rfl⟩
  · rw [hb] at Q
    go_enter Try.func97, Try.ntmps97
    go_wp2_with fail
    refine Q.out.mono ?_
    rintro e w' ⟨rfl, rfl⟩
    clear Q hb
    go_wp2_with fail
    go_ret
    exact ⟨⟨31, rfl, .inr rfl, by omega⟩, rfl⟩
theorem and_u15 (n : Int) : bits .and .u64 n 15 = n % 16 := by
  have h1 : (BitVec.ofInt 64 15).toNat = 2 ^ 4 - 1 := by decide
  have key : (BitVec.ofInt 64 n &&& BitVec.ofInt 64 15).toNat = (n % ((2 ^ 64 : Nat) : Int)).toNat % 2 ^ 4 := by
    rw [BitVec.toNat_and, BitVec.toNat_ofInt, h1, Nat.and_two_pow_sub_one_eq_mod]
  show IntKind.u64.wrap ((BitVec.ofInt 64 n &&& BitVec.ofInt 64 15).toNat : Nat) = n % 16
  rw [key, IntKind.wrap_u64]
  omega
theorem and_u31 (n : Int) : bits .and .u64 n 31 = n % 32 := by
  have h1 : (BitVec.ofInt 64 31).toNat = 2 ^ 5 - 1 := by decide
  have key : (BitVec.ofInt 64 n &&& BitVec.ofInt 64 31).toNat = (n % ((2 ^ 64 : Nat) : Int)).toNat % 2 ^ 5 := by
    rw [BitVec.toNat_and, BitVec.toNat_ofInt, h1, Nat.and_two_pow_sub_one_eq_mod]
  show IntKind.u64.wrap ((BitVec.ofInt 64 n &&& BitVec.ofInt 64 31).toNat : Nat) = n % 32
  rw [key, IntKind.wrap_u64]
  omega
theorem and_u64 (z : Int) (m : Nat) (hm : m = 15 ∨ m = 31) : ∃ v : Nat, bits .and .u64 z (m : Int) = (v : Int) ∧ v ≤ m := by
  rcases hm with rfl | rfl
  · exact ⟨(z % 16).toNat, by rw [show ((15 : Nat) : Int) = 15 from rfl, and_u15]; omega, by omega⟩
  · exact ⟨(z % 32).toNat, by rw [show ((31 : Nat) : Int) = 31 from rfl, and_u31]; omega, by omega⟩
set_option maxRecDepth 100000 in
set_option maxHeartbeats 8000000 in
theorem brk_calls (g n c a b : Nat) (d : Array UInt8) (X : List Value) (hn : d.size = n) (hs : n ≤ 18) (hab : a + 8 ≤ b) (hb : b ≤ n) (w : World) (s : St B w0 w (arr g d X * R)) :
    Calls Try.prog 79 #[.slice (some ⟨g, 0, none⟩) n c, .int .i64 a, .int .i64 b] w fun e w' => e = .returned (.tuple #[]) ∧ ∃ d', PermIn a b d d' ∧ St B w0 w' (arr g d' X * R) := by
  obtain ⟨l, rfl⟩ : ∃ l, b = a + l := ⟨b - a, by omega⟩
  have hl : 8 ≤ l ∧ l ≤ 18 := by omega
  have hle : (a : Int) + (l : Int) - (a : Int) = (l : Int) := by omega
  have Q := Lib.hid (fun w => npow_calls l hl.1 hl.2 w)
  have HA := Lib.hid (s.alloc (.cells #[.int .u64 (l : Int)] 151))
  have hq4 : (l : Int) / 4 = ((l / 4 : Nat) : Int) := by omega
  have hq5 : 2 ≤ l / 4 ∧ l / 4 * 2 + 2 ≤ l := by omega
  generalize l / 4 = q at *
  clear s
  have Hn := Lib.hid hn
  clear hn
  have HQ4 := Lib.hid hq4
  clear hq4
  go_enter Try.func79, Try.ntmps79
  go_wp2_with fail
  refine (Q.out _).mono ?_
  rintro e w2 ⟨⟨m, rfl, hm, hm2⟩, rfl⟩
  generalize w.alloc _ = w1 at HA ⊢
  generalize w.heap.size = p at *
  have HM := Lib.hid hm
  have hm3 : m ≤ 31 := by omega
  have hq4 := HQ4.out
  clear hm Q
  go_wp2_with fail
  clear hq4
  go_loopw [9] (fun vi wr => ∃ (i : Nat) (dk : Array UInt8) (y : Int), vi = .int .i64 i ∧ a + q * 2 ≤ i + 1 ∧ i ≤ a + q * 2 + 2 ∧ dk.size = n ∧ PermIn a (a + l) d dk ∧ St B w0 wr (pts p (.cells #[.int .u64 y] 151 (0, 0)) * (arr g dk X * R))) (fun vi _ => a + q * 2 + 2 - (intOf vi).toNat)
  case atStart => exact ⟨a + q * 2 - 1, d, l, by congr 1; omega, by omega, by omega, Hn.out, permIn_refl _ _ _, HA.out⟩
  case round =>
    obtain ⟨i, dk, y, rfl, hi1, hi2, hsk, hpm, s1⟩ := hrel
    clear HA
    have S1 := Lib.hid s1
    have HSK := Lib.hid hsk
    have HPM := Lib.hid hpm
    have hq4 := HQ4.out
    by_cases hle2 : i ≤ a + q * 2 + 1
    · have hleI : (i : Int) ≤ (a : Int) + (q : Int) * 2 + 1 := by omega
      clear s1 hsk hpm
      go_wp2_with fail
      refine (next_calls p y _ S1.out).mono ?_
      rintro e w3 ⟨z, rfl, s3⟩
      obtain ⟨v, hv, hvm⟩ := and_u64 z m HM.out
      have S3 := Lib.hid (s3.eq (Q := arr g dk X * (pts p (.cells #[.int .u64 z] 151 (0, 0)) * R)) (sep_left_comm _ _ _))
      clear s3 S1
      by_cases hvl : v < l
      · have hvI : ¬ (l : Int) ≤ (v : Int) := by omega
        have hz := HSK.out
        have c0 := arr_fam S3.out i (by omega)
        have c1 := arr_fam S3.out (a + v) (by omega)
        have f0 := arr_free S3.out i (by omega)
        have f1 := arr_free S3.out (a + v) (by omega)
        obtain ⟨G, hG⟩ : ∃ G : Nat → UInt8, ∀ t, G t = dk[t]! := ⟨fun t => dk[t]!, fun _ => rfl⟩
        rw [← hG] at c0 c1
        have HG := Lib.hid hG
        clear hG hz
        go_wp2_with fail
        have HP2 := Lib.hid (permIn_trans _ _ _ a (a + l) HPM.out (swp_permIn dk a (a + l) i (a + v) (by omega) (by omega) (by omega) (by omega) (by have := HSK.out; omega)))
        have HB := Lib.hid (show i < dk.size ∧ a + v < dk.size from by have := HSK.out; omega)
        by_cases heq : i = a + v
        · have HEQ := Lib.hid heq
          rw [← heq] at c1 f1
          have hai : (a : Int) + (v : Int) = (i : Int) := by omega
          have hai2 : a + v = i := by omega
          clear heq
          go_region
          all_goals go_wp2_with fail
          go_roundw
          case rel =>
            refine ⟨i + 1, swp dk i (a + v), z, by congr 1, by omega, by omega, by rw [size_swp]; exact HSK.out, HP2.out, ?_⟩
            rw [← HEQ.out, HG.out]
            exact St.eq (sep_left_comm _ _ _) (arr_swp HB.out.1 HB.out.1 S3.out)
          case measure => (simp [intOf] <;> omega)
        · go_region
          all_goals go_wp2_with fail
          go_roundw
          case rel =>
            refine ⟨i + 1, swp dk i (a + v), z, by congr 1, by omega, by omega, by rw [size_swp]; exact HSK.out, HP2.out, ?_⟩
            rw [HG.out, HG.out]
            exact St.eq (sep_left_comm _ _ _) (arr_swp HB.out.1 HB.out.2 S3.out)
          case measure => (simp [intOf] <;> omega)
      · have hvI : (l : Int) ≤ (v : Int) := by omega
        have hz := HSK.out
        have c0 := arr_fam S3.out i (by omega)
        have c1 := arr_fam S3.out (a + (v - l)) (by omega)
        have f0 := arr_free S3.out i (by omega)
        have f1 := arr_free S3.out (a + (v - l)) (by omega)
        obtain ⟨G, hG⟩ : ∃ G : Nat → UInt8, ∀ t, G t = dk[t]! := ⟨fun t => dk[t]!, fun _ => rfl⟩
        rw [← hG] at c0 c1
        have HG := Lib.hid hG
        clear hG hz
        go_wp2_with fail
        have HP2 := Lib.hid (permIn_trans _ _ _ a (a + l) HPM.out (swp_permIn dk a (a + l) i (a + (v - l)) (by omega) (by omega) (by omega) (by omega) (by have := HSK.out; omega)))
        have HB := Lib.hid (show i < dk.size ∧ a + (v - l) < dk.size from by have := HSK.out; omega)
        by_cases heq : i = a + (v - l)
        · have HEQ := Lib.hid heq
          rw [← heq] at c1 f1
          have hai : (a : Int) + ((v - l) : Int) = (i : Int) := by omega
          have hai2 : a + (v - l) = i := by omega
          clear heq
          go_region
          all_goals go_wp2_with fail
          go_roundw
          case rel =>
            refine ⟨i + 1, swp dk i (a + (v - l)), z, by congr 1, by omega, by omega, by rw [size_swp]; exact HSK.out, HP2.out, ?_⟩
            rw [← HEQ.out, HG.out]
            exact St.eq (sep_left_comm _ _ _) (arr_swp HB.out.1 HB.out.1 S3.out)
          case measure => (simp [intOf] <;> omega)
        · go_region
          all_goals go_wp2_with fail
          go_roundw
          case rel =>
            refine ⟨i + 1, swp dk i (a + (v - l)), z, by congr 1, by omega, by omega, by rw [size_swp]; exact HSK.out, HP2.out, ?_⟩
            rw [HG.out, HG.out]
            exact St.eq (sep_left_comm _ _ _) (arr_swp HB.out.1 HB.out.2 S3.out)
          case measure => (simp [intOf] <;> omega)
    · have hleI : ¬ (i : Int) ≤ (a : Int) + (q : Int) * 2 + 1 := by omega
      clear s1 hsk hpm
      go_wp2_with fail
      go_end0
      exact ⟨rfl, dk, HPM.out, S1.out.right⟩
end
end Go.Proofs.Ytjnfhppjkadlpaa.SrA
