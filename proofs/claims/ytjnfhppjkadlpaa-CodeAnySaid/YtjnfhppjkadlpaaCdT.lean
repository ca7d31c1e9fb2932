/- The code laws' Data, walked. No condition. -/
import Derived.Test.YtjnfhppjkadlpaaMgB
import Derived.Test.YtjnfhppjkadlpaaMgM
set_option linter.unusedSimpArgs false
set_option linter.unusedVariables false
namespace Go.Proofs.Ytjnfhppjkadlpaa.Cd
open Go Go.RowKit Go.Proofs.Ytjnfhppjkadlpaa Go.Proofs.Ytjnfhppjkadlpaa.Sp Go.Proofs.Ytjnfhppjkadlpaa.Reg Go.Proofs.Ytjnfhppjkadlpaa.SlW Go.Proofs.Ytjnfhppjkadlpaa.Rd Go.Proofs.Ytjnfhppjkadlpaa.Obr
open Go.Proofs.Ytjnfhppjkadlpaa.Mt (place at_lt)
/-- A byte, where no text says it. -/
def d0 (i j : Nat) : UInt8 := UInt8.ofNat (31 * i + 17 * j)
theorem d0_eq (i j : Nat) : (31 * (i : Int) + 17 * (j : Int)) % 256 = ((d0 i j).toNat : Int) := by
  unfold d0
  rw [UInt8.toNat_ofNat']
  omega
def df (b : List UInt8) (long i j : Nat) : UInt8 := if i * long + j < b.length then b.getD (i * long + j) 0 else d0 i j
def drow (b : List UInt8) (long i : Nat) : List UInt8 := (List.range long).map (df b long i)
def dl (b : List UInt8) (long k : Nat) : List (List UInt8) := (List.range k).map (drow b long)
theorem drow_len (b : List UInt8) (long i : Nat) : (drow b long i).length = long := by simp [drow]
theorem dl_len (b : List UInt8) (long k : Nat) : (dl b long k).length = k := by simp [dl]
theorem dl_succ (b : List UInt8) (long k : Nat) : dl b long (k + 1) = dl b long k ++ [drow b long k] := by simp [dl, List.range_succ]
theorem dl_each (b : List UInt8) (long k : Nat) : ∀ r ∈ dl b long k, r.length = long := by
  intro r hr
  obtain ⟨i, -, rfl⟩ := List.mem_map.1 hr
  exact drow_len b long i
/-- A row under way. -/
def dfj (b : List UInt8) (long i j : Nat) : Nat → UInt8 := fun x => if x < j then df b long i x else 0
theorem dfj_step (b : List UInt8) (long i j x : Nat) (v : UInt8) (h : v = df b long i j) : (if x = j then v else dfj b long i j x) = dfj b long i (j + 1) x := by
  unfold dfj
  by_cases e : x = j
  · subst e; rw [if_pos rfl, if_pos (by omega), h]
  · rw [if_neg e]
    by_cases h2 : x < j
    · rw [if_pos h2, if_pos (by omega)]
    · rw [if_neg h2, if_neg (by omega)]
section
variable {B : Nat} {w0 : World} {R : HP}
set_option maxRecDepth 100000 in
set_option maxHeartbeats 16000000 in
theorem dat_calls (k long : Nat) (hk : k ≤ 100) (hl : long ≤ 1000) (a : Option Addr) (c : Nat) (b : List UInt8) (hbl : b.length ≤ 1000000) (w : World) (hb : Reads B w0 R (.slice a b.length c) b) (s : St B w0 w R) :
    Calls Try.prog 32 #[.int .i64 (k : Int), .int .i64 (long : Int), .slice a b.length c] w fun e w' => ∃ v vs, e = .returned v ∧ vs.length = k ∧ NN vs ∧ St B w0 w' (ob v vs (dl b long k) * R) := by
  have HB := Lib.hid hb
  clear hb
  have S := Lib.hid s
  clear s
  go_enter Try.func32, Try.ntmps32
  go_wp2_with fail
  go_loopw [7, 8] (fun X ii wr => ∃ (i : Nat) (vs : List Value), i ≤ k ∧ ii = .int .i64 (i : Int) ∧ vs.length = i ∧ NN vs ∧ St B w0 wr (row 32 1 X i vs * (rows 5 vs (dl b long i) * R))) (fun _ ii _ => k - (intOf ii).toNat)
  case atStart => exact ⟨0, [], Nat.zero_le _, rfl, rfl, NN.nil, (S.out.rowNil _ _).eq (by show _ = row 32 1 (.slice none 0 0) 0 [] * (emp * R); rw [emp_sep])⟩
  case round =>
    obtain ⟨i, vs, hik, rfl, hvs, hnn, s1⟩ := hrel
    clear S
    obtain ⟨a7, c7, rfl, -⟩ := s1.rowSlice
    have HVS := Lib.hid (And.intro hvs hnn)
    clear hvs hnn
    by_cases hlt : i < k
    · have hltI : (i : Int) < (k : Int) := by omega
      have S1 := Lib.hid s1
      clear s1
      go_wp2_with (at_make; go_must (refine wpl_make1 rfl _ _ rfl tB rfl S1.out .i64 .i64 long long rfl rfl (Nat.le_refl _) (by unfold maxLen; omega) (by omega) ?_); intro g w2 s2; have S2 := Lib.hid (br_made s2); clear s2 S1)
      go_loopw [10] (fun ji wr => ∃ j : Nat, j ≤ long ∧ ji = .int .i64 (j : Int) ∧ St B w0 wr (br g long (dfj b long i j) * (row 32 1 (.slice a7 i c7) i vs * (rows 5 vs (dl b long i) * R)))) (fun ji _ => long - (intOf ji).toNat)
      case atStart => exact ⟨0, Nat.zero_le _, rfl, by rw [br_congr (f := dfj b long i 0) (f' := fun _ => 0) fun q _ => if_neg (Nat.not_lt_zero q)]; exact S2.out⟩
      case round =>
        obtain ⟨j, hjl, rfl, s3⟩ := hrel
        clear S2
        by_cases hj : j < long
        · have hjI : (j : Int) < (long : Int) := by omega
          have h0 := d0_eq i j
          have hpl : i * long + j ≤ 1000000 := by have : i * long ≤ 100 * 1000 := Nat.mul_le_mul (by omega) (by omega); omega
          obtain ⟨q1, q2, q3, q4⟩ := place hpl (Nat.le_refl _)
          have c0 := br_at s3 hj
          have f0 := (br_set s3 hj (d0 i j)).1
          have s4 := (br_set s3 hj (d0 i j)).2
          have hcast : (i : Int) * (long : Int) + (j : Int) = ((i * long + j : Nat) : Int) := by push_cast; rfl
          by_cases hq : i * long + j < b.length
          · have hqI : (i : Int) * (long : Int) + (j : Int) < (b.length : Int) := by omega
            have c1 := br_at s4 hj
            simp only [if_pos] at c1
            have f1 := (br_set s4 hj (df b long i j)).1
            have s5 := (br_set s4 hj (df b long i j)).2
            have hbs := HB.out _ ((br g long fun p => if p = j then d0 i j else dfj b long i j p) * (row 32 1 (.slice a7 i c7) i vs * rows 5 vs (dl b long i))) (s4.eq (by ac_rfl))
            obtain ⟨b1, o1, rfl⟩ := hbs.head (by omega)
            have c2 := hbs.cellAt (i * long + j) hq
            have hdv : b[i * long + j] = df b long i j := by unfold df; rw [if_pos hq]; simp [List.getD, hq]
            rw [hdv] at c2
            rw [br_congr (f' := dfj b long i (j + 1)) (fun x hx => by
              rw [← dfj_step b long i j x (df b long i j) rfl]
              by_cases e : x = j
              · simp [e]
              · simp [e])] at s5
            have S5 := Lib.hid s5
            have HC := Lib.hid hcast
            generalize df b long i j = y2 at *
            generalize dfj b long i j j = y0 at *
            generalize d0 i j = y1 at *
            clear s3 s4 s5 hq hcast hpl hbs hdv
            go_wp2_with fail
            go_roundw
            case rel => exact ⟨j + 1, by omega, by go_num, S5.out⟩
            case measure => simp [intOf]; omega
          · have hqI : ¬ (i : Int) * (long : Int) + (j : Int) < (b.length : Int) := by omega
            rw [br_congr (fun x _ => dfj_step b long i j x (d0 i j) (by unfold df; rw [if_neg hq]))] at s4
            have S4 := Lib.hid s4
            have HC := Lib.hid hcast
            generalize dfj b long i j j = y0 at *
            generalize d0 i j = y1 at *
            clear s3 s4 hq hcast hpl
            go_wp2_with fail
            go_roundw
            case rel => exact ⟨j + 1, by omega, by go_num, S4.out⟩
            case measure => simp [intOf]; omega
        · obtain rfl : j = long := by omega
          have HDS := Lib.hid (dl_succ b j i)
          have HDR := Lib.hid (drow_len b j i)
          have HDL := Lib.hid (dl_len b j i)
          have hbr : br g j (dfj b j i j) = row 5 1 (.slice (some ⟨g, 0, none⟩) j j) j (bvs (drow b j i)) := by
            unfold br drow
            rw [List.map_congr_left (f := dfj b j i j) (g := df b j i) fun x hx => if_pos (List.mem_range.1 hx)]
          rw [hbr] at s3
          generalize drow b j i = D at *
          generalize dl b j i = E at *
          have S4 := Lib.hid ((s3.alloc (.cells #[.slice (some ⟨g, 0, none⟩) j j] 32)).eq (Q := row 32 1 (.slice a7 i c7) i vs * (pts wr.heap.size (.cells #[.slice (some ⟨g, 0, none⟩) j j] 32) * (row 5 1 (.slice (some ⟨g, 0, none⟩) j j) j (bvs D) * (rows 5 vs E * R)))) (by ac_rfl))
          have hrd := Lib.hid (Rd.new wr #[.slice (some ⟨g, 0, none⟩) j j] 32)
          clear s3 hbr
          go_wp2_with (at_builtin; go_must (refine wpl_append rfl _ _ rfl tBB S4.out (some ⟨wr.heap.size, 0, none⟩) 1 1 [.slice (some ⟨g, 0, none⟩) j j] rfl rfl hrd.out (fun e => by cases e) (by simp) (by simp [Value.oneCell']) (by unfold maxLen; omega) (by omega) ?_); intro v5 w5 s5 _; have S6 := Lib.hid ((s5.eq (sep_left_comm _ _ _)).right); clear s5 S4 hrd)
          go_roundw
          case rel =>
            refine ⟨i + 1, vs ++ [.slice (some ⟨g, 0, none⟩) j j], by omega, by go_num, by simp [HVS.out.1], HVS.out.2.snoc ⟨_, _, _, rfl⟩, ?_⟩
            rw [HDS.out, rows_snoc _ _ _ _ _ (by rw [HDL.out]; exact HVS.out.1), HDR.out]
            exact S6.out.eq (by ac_rfl)
          case measure => simp [intOf]; omega
    · obtain rfl : i = k := by omega
      have S1 := Lib.hid s1
      clear s1
      go_wp2_with fail
      go_ret
      exact ⟨_, vs, rfl, HVS.out.1, HVS.out.2, S1.out.eq (by unfold ob; rw [dl_len]; ac_rfl)⟩
end
end Go.Proofs.Ytjnfhppjkadlpaa.Cd
