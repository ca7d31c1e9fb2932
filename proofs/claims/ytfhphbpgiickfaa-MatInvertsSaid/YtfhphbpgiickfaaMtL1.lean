/- law2's helpers, walked: make1, same, the document's Unit, awake. -/
import Derived.Test.YtfhphbpgiickfaaMtW6
import Derived.Test.YtfhphbpgiickfaaGfL2
import Derived.Test.YtfhphbpgiickfaaRws
namespace Go.Proofs.Ytfhphbpgiickfaa.Mt
open Go Go.RowKit Go.Proofs.Ytfhphbpgiickfaa Go.Proofs.Ytfhphbpgiickfaa.Sp Go.Proofs.Ytfhphbpgiickfaa.Reg Go.Proofs.Ytfhphbpgiickfaa.Rd Go.Proofs.Ytfhphbpgiickfaa.Gf
/-- make1's cells. -/
def mk1 (bs : List UInt8) (q : Nat) : UInt8 := if q < bs.length then bs.getD q 0 else UInt8.ofNat (q * q + 3 * q + 1)
def m1 (c : Nat) (bs : List UInt8) : Mx := fun i j => mk1 bs (i * c + j)
theorem m1_cl (r c : Nat) (bs : List UInt8) : cl r c (m1 c bs) = (List.range (r * c)).map (mk1 bs) := by
  refine List.map_congr_left fun q hq => ?_
  have := div_at (List.mem_range.1 hq)
  show mk1 bs (q / c * c + q % c) = mk1 bs q
  rw [← this.2.2]
/-- A document's Matrix. -/
def rmv (r c n g cap : Nat) : Value := .agg #[.int .i64 (r : Int), .int .i64 (c : Int), .slice (some ⟨g, 0, none⟩) n cap]
section
variable {B : Nat} {w0 : World} {R : HP}
set_option maxRecDepth 100000 in
set_option maxHeartbeats 8000000 in
theorem make1_calls (r c : Nat) (hrc : 1 ≤ r * c ∧ r * c ≤ 1024) (a : Option Addr) (n ca : Nat) (bs : List UInt8) (hbn : bs.length ≤ 1000000) (w : World) (hb : Reads B w0 R (.slice a n ca) bs) (s : St B w0 w R) :
    Calls Try.prog 33 #[.int .i64 (r : Int), .int .i64 (c : Int), .slice a n ca] w fun e w' => ∃ g cap, e = .returned (rmv r c (r * c) g cap) ∧ St B w0 w' (row 5 1 (.slice (some ⟨g, 0, none⟩) (r * c) cap) (r * c) (bvs (cl r c (m1 c bs))) * R) := by
  obtain rfl := (hb w emp (s.eq (emp_sep _).symm)).rd.1
  have wrc := wrapm hrc.2 (by omega)
  have erc : (r : Int) * (c : Int) = ((r * c : Nat) : Int) := by push_cast; rfl
  rw [m1_cl]
  generalize r * c = N at *
  have HE := Lib.hid erc
  rw [erc] at wrc
  have HB := Lib.hid hb
  have S := Lib.hid s
  clear s
  clear hb
  go_enter Try.func33, Try.ntmps33
  go_wp2_with fail
  have s1 := S.out.alloc (.cells #[.int .i64 0, .int .i64 0, .slice none 0 0] 50)
  have s2 := s1.alloc (.cells #[.int .i64 (r : Int), .int .i64 (c : Int), .slice none 0 0] 50)
  rw [show (w.alloc (.cells #[.int .i64 0, .int .i64 0, .slice none 0 0] 50)).heap.size = w.heap.size + 1 by simp] at s2
  have s3 := (s2.rowNil 5 1).eq (Q := pts w.heap.size (.cells #[.int .i64 0, .int .i64 0, .slice none 0 0] 50) * (pts (w.heap.size + 1) (.cells #[.int .i64 (r : Int), .int .i64 (c : Int), .slice none 0 0] 50) * (row 5 1 (.slice none 0 0) 0 [] * R))) (by ac_rfl)
  clear S s1 s2
  have S := Lib.hid s3
  clear s3
  generalize w.heap.size = b6 at *
  go_loopw [8] (fun i wr => ∃ (q : Nat) (v : Value), q ≤ N ∧ i = .int .i64 q ∧ St B w0 wr (pts b6 (.cells #[.int .i64 0, .int .i64 0, .slice none 0 0] 50) * (pts (b6 + 1) (.cells #[.int .i64 (r : Int), .int .i64 (c : Int), v] 50) * (row 5 1 v q (bvs ((List.range q).map (mk1 bs))) * R)))) (fun i _ => N - (intOf i).toNat)
  case atStart => exact ⟨0, _, Nat.zero_le _, rfl, S.out⟩
  case round =>
    obtain ⟨q, v, hq, rfl, s⟩ := hrel
    clear S
    obtain ⟨a2, c2, rfl, -⟩ := (s.eq (Q := row 5 1 v q (bvs ((List.range q).map (mk1 bs))) * (pts b6 (.cells #[.int .i64 0, .int .i64 0, .slice none 0 0] 50) * (pts (b6 + 1) (.cells #[.int .i64 (r : Int), .int .i64 (c : Int), v] 50) * R))) (by ac_rfl)).rowSlice
    have S := Lib.hid s
    have sb := s.eq (Q := pts (b6 + 1) (.cells #[.int .i64 (r : Int), .int .i64 (c : Int), .slice a2 q c2] 50) * (pts b6 (.cells #[.int .i64 0, .int .i64 0, .slice none 0 0] 50) * (row 5 1 (.slice a2 q c2) q (bvs ((List.range q).map (mk1 bs))) * R))) (by ac_rfl)
    have k2 := sb.cell 2
    simp at k2
    clear s sb
    by_cases hlt : q < N
    · have sq1 : (q : Int) * (q : Int) = ((q * q : Nat) : Int) := by push_cast; rfl
      have sq2 : q * q ≤ 1024 * 1024 := Nat.mul_le_mul (by omega) (by omega)
      have sq3 : (0 : Int) ≤ (q : Int) * (q : Int) ∧ (q : Int) * (q : Int) ≤ 1048576 := by rw [sq1]; omega
      obtain ⟨sq4, sq5⟩ := sq3
      have sq6 : IntKind.i64.wrap ((q : Int) * (q : Int)) = (q : Int) * (q : Int) := by rw [IntKind.wrap_i64]; omega
      clear sq1 sq2
      have s4 := (S.out.alloc (.cells #[bv (mk1 bs q)] 5)).eq (Q := row 5 1 (.slice a2 q c2) q (bvs ((List.range q).map (mk1 bs))) * (pts wr.heap.size (.cells #[bv (mk1 bs q)] 5) * (pts b6 (.cells #[.int .i64 0, .int .i64 0, .slice none 0 0] 50) * (pts (b6 + 1) (.cells #[.int .i64 (r : Int), .int .i64 (c : Int), .slice a2 q c2] 50) * R)))) (by ac_rfl)
      have S4 := Lib.hid s4
      have hrd := Lib.hid (Rd.new wr #[bv (mk1 bs q)] 5)
      have HX := Lib.hid (show bvs ((List.range q).map (mk1 bs)) ++ [bv (mk1 bs q)] = bvs ((List.range (q + 1)).map (mk1 bs)) by rw [List.range_succ]; simp [bvs])
      clear s4
      by_cases hlb : q < bs.length
      · have hx : mk1 bs q = bs[q] := by unfold mk1; rw [if_pos hlb]; simp [hlb]
        have hbs := HB.out wr _ (S.out.eq (Q := (pts b6 (.cells #[.int .i64 0, .int .i64 0, .slice none 0 0] 50) * pts (b6 + 1) (.cells #[.int .i64 (r : Int), .int .i64 (c : Int), .slice a2 q c2] 50) * row 5 1 (.slice a2 q c2) q (bvs ((List.range q).map (mk1 bs)))) * R) (by ac_rfl))
        obtain ⟨b1, o1, rfl⟩ := hbs.head (by omega)
        have c1 := hbs.cellAt q hlb
        rw [← hx] at c1
        clear hbs hx S
        go_wp2_with (at_builtin; go_must (refine wpl_append rfl _ _ rfl tB S4.out (some ⟨wr.heap.size, 0, none⟩) 1 1 [bv (mk1 bs q)] rfl rfl hrd.out (fun e => by cases e) (by simp) (by simp [Value.oneCell']) (by unfold maxLen; omega) (by omega) ?_); intro v5 w5 s5 _; rw [HX.out] at s5; obtain ⟨a5, c5, rfl, -⟩ := s5.rowSlice; have s6 := s5.eq (Q := pts (b6 + 1) (.cells #[.int .i64 (r : Int), .int .i64 (c : Int), .slice a2 q c2] 50) * (pts b6 (.cells #[.int .i64 0, .int .i64 0, .slice none 0 0] 50) * (row 5 1 (.slice a5 (q + 1) c5) (q + 1) (bvs ((List.range (q + 1)).map (mk1 bs))) * (pts wr.heap.size (.cells #[bv (mk1 bs q)] 5) * R)))) (by ac_rfl); have c2_ := s6.cell 2; have f2_ := s6.free 2; simp at c2_; have S6 := Lib.hid ((s6.set 2 (.slice a5 (q + 1) c5)).eq (Q := pts wr.heap.size (.cells #[bv (mk1 bs q)] 5) * (pts b6 (.cells #[.int .i64 0, .int .i64 0, .slice none 0 0] 50) * (pts (b6 + 1) (.cells #[.int .i64 (r : Int), .int .i64 (c : Int), .slice a5 (q + 1) c5] 50) * (row 5 1 (.slice a5 (q + 1) c5) (q + 1) (bvs ((List.range (q + 1)).map (mk1 bs))) * R)))) (by simp; ac_rfl)).right; clear s5 s6 S4 hrd HX k2)
        go_roundw
        case rel => exact ⟨q + 1, (.slice a5 (q + 1) c5), by omega, by go_num, S6.out⟩
        case measure => simp [intOf]; omega
      · have hE : ((q : Int) * (q : Int) + 3 * (q : Int) + 1) % 256 = ((mk1 bs q).toNat : Int) := by
          unfold mk1
          rw [if_neg hlb, UInt8.toNat_ofNat']
          push_cast
          rfl
        clear S
        go_wp2_with (at_builtin; go_must (refine wpl_append rfl _ _ rfl tB S4.out (some ⟨wr.heap.size, 0, none⟩) 1 1 [bv (mk1 bs q)] rfl rfl hrd.out (fun e => by cases e) (by simp) (by simp [Value.oneCell']) (by unfold maxLen; omega) (by omega) ?_); intro v5 w5 s5 _; rw [HX.out] at s5; obtain ⟨a5, c5, rfl, -⟩ := s5.rowSlice; have s6 := s5.eq (Q := pts (b6 + 1) (.cells #[.int .i64 (r : Int), .int .i64 (c : Int), .slice a2 q c2] 50) * (pts b6 (.cells #[.int .i64 0, .int .i64 0, .slice none 0 0] 50) * (row 5 1 (.slice a5 (q + 1) c5) (q + 1) (bvs ((List.range (q + 1)).map (mk1 bs))) * (pts wr.heap.size (.cells #[bv (mk1 bs q)] 5) * R)))) (by ac_rfl); have c2_ := s6.cell 2; have f2_ := s6.free 2; simp at c2_; have S6 := Lib.hid ((s6.set 2 (.slice a5 (q + 1) c5)).eq (Q := pts wr.heap.size (.cells #[bv (mk1 bs q)] 5) * (pts b6 (.cells #[.int .i64 0, .int .i64 0, .slice none 0 0] 50) * (pts (b6 + 1) (.cells #[.int .i64 (r : Int), .int .i64 (c : Int), .slice a5 (q + 1) c5] 50) * (row 5 1 (.slice a5 (q + 1) c5) (q + 1) (bvs ((List.range (q + 1)).map (mk1 bs))) * R)))) (by simp; ac_rfl)).right; clear s5 s6 S4 hrd HX k2)
        go_roundw
        case rel => exact ⟨q + 1, (.slice a5 (q + 1) c5), by omega, by go_num, S6.out⟩
        case measure => simp [intOf]; omega
    · obtain rfl : q = N := by omega
      obtain ⟨g, cap, hv, -⟩ := (S.out.eq (Q := row 5 1 (.slice a2 q c2) q (bvs ((List.range q).map (mk1 bs))) * (pts b6 (.cells #[.int .i64 0, .int .i64 0, .slice none 0 0] 50) * (pts (b6 + 1) (.cells #[.int .i64 (r : Int), .int .i64 (c : Int), .slice a2 q c2] 50) * R))) (by ac_rfl)).rowSome (by intro e; cases e; omega)
      obtain ⟨rfl, -, rfl⟩ : a2 = some ⟨g, 0, none⟩ ∧ q = q ∧ c2 = cap := by simpa using hv
      clear hv
      have s := S.out
      have sb := s.eq (Q := pts (b6 + 1) (.cells #[.int .i64 (r : Int), .int .i64 (c : Int), .slice (some ⟨g, 0, none⟩) q c2] 50) * (pts b6 (.cells #[.int .i64 0, .int .i64 0, .slice none 0 0] 50) * (row 5 1 (.slice (some ⟨g, 0, none⟩) q c2) q (bvs ((List.range q).map (mk1 bs))) * R))) (by ac_rfl)
      have d0 := sb.cell 0
      have d1 := sb.cell 1
      simp at d0 d1
      have e0 := s.cell 0
      have e1 := s.cell 1
      have e2 := s.cell 2
      have f0 := s.free 0
      have f1 := s.free 1
      have f2 := s.free 2
      simp at e0 e1 e2
      have s9 := ((s.set 0 (.int .i64 (r : Int))).set 1 (.int .i64 (c : Int))).set 2 (.slice (some ⟨g, 0, none⟩) q c2)
      have z0 := s9.cell 0
      have z1 := s9.cell 1
      have z2 := s9.cell 2
      simp at z0 z1 z2
      have Z := Lib.hid (And.intro z0 (And.intro z1 z2))
      have S9 := Lib.hid s9.right.right
      clear s sb S s9 z0 z1 z2
      go_wp2_with fail
      refine bodyPost_ret (v := rmv r c q g c2) (by simp [results, Try.results33, go_sem, Z.out.1, Z.out.2.1, Z.out.2.2, rmv]) rfl ?_
      exact ⟨g, c2, rfl, S9.out⟩
end
end Go.Proofs.Ytfhphbpgiickfaa.Mt
