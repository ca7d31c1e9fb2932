/- Codes: long and there, walked. No condition. -/
import Derived.Test.YtjnfhppjkadlpaaCdB
import Derived.Test.YtjnfhppjkadlpaaMgB
set_option linter.unusedSimpArgs false
set_option linter.unusedVariables false
namespace Go.Proofs.Ytjnfhppjkadlpaa.Cd
open Go Go.RowKit Go.Proofs.Ytjnfhppjkadlpaa Go.Proofs.Ytjnfhppjkadlpaa.Sp Go.Proofs.Ytjnfhppjkadlpaa.Reg Go.Proofs.Ytjnfhppjkadlpaa.Rd Go.Proofs.Ytjnfhppjkadlpaa.Obr Go.Proofs.Ytjnfhppjkadlpaa.Gf
theorem tI : SlT Try.prog 69 3 1 8 (.int .i64 0) := ⟨Try.underlying69, info_parts (by kernel_rfl), rfl, by decide⟩
/-- How long those are that are there, from so long on; none: not alike. -/
def lgo : Int → Shs → Option Int
  | n, [] => some n
  | n, none :: t => lgo n t
  | n, some b :: t => if n < 0 then lgo b.length t else if (b.length : Int) ≠ n then none else lgo n t
def lgn (l : Shs) : Int := match lgo (-1) l with
  | none => 0
  | some n => max n 0
def lgb (l : Shs) : Bool := match lgo (-1) l with
  | none => false
  | some n => decide (n ≤ 64)
theorem thr_succ (l : Shs) (k : Nat) : thr l (k + 1) = thr l k ++ if (sat l k).isSome then [k] else [] := by
  unfold thr
  rw [List.range_succ, List.filter_append]
  congr 1
  cases h : (sat l k).isSome <;> simp [h]
abbrev nis (l : List Nat) : List Value := l.map fun n : Nat => Value.int .i64 (n : Int)
section
variable {B : Nat} {w0 : World} {R : HP}
theorem sat_at {l : Shs} {k : Nat} (h : k < l.length) : sat l k = l[k] := by simp [sat, h]
theorem drop_at {l : Shs} {k : Nat} (h : k < l.length) : l.drop k = l[k] :: l.drop (k + 1) := List.drop_eq_getElem_cons h
set_option maxRecDepth 100000 in
set_option maxHeartbeats 8000000 in
theorem long_calls (v : Value) (l : Shs) (hl : l.length ≤ 1000000) (w : World) (hr : SRd B w0 R v l) (s : St B w0 w R) :
    Calls Try.prog 54 #[v] w (RetG B w0 R (.tuple #[.int .i64 (lgn l), .bool (lgb l)])) := by
  obtain ⟨A, c, vs, rfl, hvl, hlc, hcm, hnil, hA, hu⟩ := hr
  have HA := Lib.hid hA
  have HU := Lib.hid hu
  have HV := Lib.hid hvl
  obtain ⟨ll, hll⟩ : ∃ ll, l.length = ll := ⟨_, rfl⟩
  rw [hll] at hlc hl ⊢
  have HL := Lib.hid hll
  clear hA hu hvl hll
  have S := Lib.hid s
  clear s
  go_enter Try.func54, Try.ntmps54
  go_wp2_with fail
  go_loopw [4, 9] (fun nv i wr => ∃ (k : Nat) (n : Int), k ≤ ll ∧ i = .int .i64 (k : Int) ∧ nv = .int .i64 n ∧ -1 ≤ n ∧ n ≤ 9223372036854775807 ∧ lgo (-1) l = lgo n (l.drop k) ∧ St B w0 wr R) (fun _ i _ => ll - (intOf i).toNat)
  case atStart => exact ⟨0, -1, Nat.zero_le _, rfl, rfl, by omega, by omega, rfl, S.out⟩
  case round =>
    obtain ⟨k, n, hkl, rfl, rfl, hn1, hn2, he, s2⟩ := hrel
    clear S
    by_cases hlt : k < ll
    · have hltI : (k : Int) < (ll : Int) := by omega
      have hkd : k < l.length := by rw [HL.out]; exact hlt
      obtain ⟨u, hu1, hu2⟩ := HU.out k hkd
      obtain ⟨b0, o0, rfl, hc0⟩ := (HA.out wr emp (s2.eq (emp_sep _).symm)).at (by rintro rfl; simp at hu1)
      have c0 := hc0 k u hu1
      rw [drop_at hkd] at he
      clear hc0 hu1
      have E := Lib.hid he
      clear he
      generalize l[k] = o at *
      have S2 := Lib.hid s2
      clear s2
      cases o with
      | none =>
        cases (show u = .slice none 0 0 from hu2)
        clear hu2
        have hn := fun w => Lib.run_eql_slice_nil (P := Try.prog) w 32 5 none 0 0 0 0 Try.underlying32
        go_wp2_with fail
        go_roundw
        case rel => exact ⟨k + 1, n, by omega, by go_num, rfl, hn1, hn2, E.out, S2.out⟩
        case measure => simp [intOf]; omega
      | some b =>
        obtain ⟨⟨g, off, m, cc, rfl⟩, hb⟩ := hu2
        obtain ⟨a9, c9, e9, h91, h92, -⟩ := hb wr emp (S2.out.eq (emp_sep _).symm)
        cases e9
        clear hb
        have hE : lgo (-1) l = if n < 0 then lgo b.length (l.drop (k + 1)) else if (b.length : Int) ≠ n then none else lgo n (l.drop (k + 1)) := E.out
        have hbl : b.length ≤ 9223372036854775807 := by unfold maxLen at h92; omega
        clear E
        generalize b.length = bl at *
        have hn := fun w => Lib.run_eql_slice_nil (P := Try.prog) w 32 5 (some ⟨g, off, none⟩) bl cc 0 0 Try.underlying32
        by_cases h0 : n < 0
        · rw [if_pos h0] at hE
          have E := Lib.hid hE
          clear hE
          go_wp2_with fail
          go_roundw
          case rel => exact ⟨k + 1, bl, by omega, by go_num, rfl, by omega, by omega, E.out, S2.out⟩
          case measure => simp [intOf]; omega
        · rw [if_neg h0] at hE
          by_cases h1 : (bl : Int) = n
          · rw [if_neg (by omega)] at hE
            have E := Lib.hid hE
            clear hE
            go_wp2_with fail
            go_roundw
            case rel => exact ⟨k + 1, n, by omega, by go_num, rfl, hn1, hn2, E.out, S2.out⟩
            case measure => simp [intOf]; omega
          · rw [if_pos (by omega)] at hE
            have E := Lib.hid hE
            clear hE
            go_wp2_with fail
            go_ret2
            exact ⟨by unfold lgn lgb; rw [E.out]; rfl, S2.out⟩
    · obtain rfl : k = ll := by omega
      have e : lgo (-1) l = some n := by rw [he, List.drop_eq_nil_of_le (by rw [HL.out]; exact Nat.le_refl _)]; rfl
      have E := Lib.hid (show lgn l = max n 0 ∧ lgb l = decide (n ≤ 64) from by unfold lgn lgb; rw [e]; exact ⟨rfl, rfl⟩)
      clear he e
      have S2 := Lib.hid s2
      clear s2
      by_cases h0 : n ≤ 0
      · skip
        go_wp2_with fail
        all_goals (go_ret2; refine ⟨?_, S2.out⟩; rw [E.out.1, E.out.2]; first | (rw [Int.max_eq_right h0]; rfl) | (rw [show max n 0 = n from by omega]; rfl))
      · skip
        go_wp2_with fail
        all_goals (go_ret2; refine ⟨?_, S2.out⟩; rw [E.out.1, E.out.2]; first | (rw [show max n 0 = n from by omega]; rfl) | (rw [show max n 0 = 0 from by omega]; rfl))
set_option maxRecDepth 100000 in
set_option maxHeartbeats 8000000 in
theorem there_calls (v : Value) (l : Shs) (hl : l.length ≤ 1000000) (w : World) (hr : SRd B w0 R v l) (s : St B w0 w R) :
    Calls Try.prog 55 #[v] w fun e w' => ∃ v', e = .returned v' ∧ St B w0 w' (row 3 1 v' (thr l l.length).length (nis (thr l l.length)) * R) := by
  obtain ⟨A, c, vs, rfl, hvl, hlc, hcm, hnil, hA, hu⟩ := hr
  have HA := Lib.hid hA
  have HU := Lib.hid hu
  have HV := Lib.hid hvl
  obtain ⟨ll, hll⟩ : ∃ ll, l.length = ll := ⟨_, rfl⟩
  rw [hll] at hlc hl ⊢
  have HL := Lib.hid hll
  clear hA hu hvl hll
  have S := Lib.hid s
  clear s
  go_enter Try.func55, Try.ntmps55
  go_wp2_with fail
  go_loopw [3, 8] (fun x i wr => ∃ (k : Nat), k ≤ ll ∧ i = .int .i64 (k : Int) ∧ (thr l k).length ≤ k ∧ St B w0 wr (row 3 1 x (thr l k).length (nis (thr l k)) * R)) (fun _ i _ => ll - (intOf i).toNat)
  case atStart => exact ⟨0, Nat.zero_le _, rfl, Nat.le_refl _, S.out.rowNil _ _⟩
  case round =>
    obtain ⟨k, hkl, rfl, hth, s2⟩ := hrel
    clear S
    by_cases hlt : k < ll
    · have hltI : (k : Int) < (ll : Int) := by omega
      have hkd : k < l.length := by rw [HL.out]; exact hlt
      obtain ⟨u, hu1, hu2⟩ := HU.out k hkd
      obtain ⟨b0, o0, rfl, hc0⟩ := (HA.out wr (row 3 1 u3 (thr l k).length (nis (thr l k))) s2).at (by rintro rfl; simp at hu1)
      have c0 := hc0 k u hu1
      have ht := thr_succ l k
      rw [sat_at hkd] at ht
      clear hc0 hu1
      obtain ⟨a3, c3, rfl, -⟩ := s2.rowSlice
      generalize l[k] = o at *
      generalize thr l k = t1 at *
      cases o with
      | none =>
        cases (show u = .slice none 0 0 from hu2)
        clear hu2
        have hn := fun w => Lib.run_eql_slice_nil (P := Try.prog) w 32 5 none 0 0 0 0 Try.underlying32
        have HT := Lib.hid (show thr l (k + 1) = t1 from by simpa using ht)
        clear ht
        have S2 := Lib.hid s2
        have Hth := Lib.hid hth
        clear s2 hth
        go_wp2_with fail
        go_roundw
        case rel => exact ⟨k + 1, by omega, by go_num, by rw [HT.out]; have := Hth.out; omega, by rw [HT.out]; exact S2.out⟩
        case measure => simp [intOf]; omega
      | some b =>
        obtain ⟨⟨g, off, m, cc, rfl⟩, hb⟩ := hu2
        clear hb
        have hn := fun w => Lib.run_eql_slice_nil (P := Try.prog) w 32 5 (some ⟨g, off, none⟩) m cc 0 0 Try.underlying32
        have HT := Lib.hid (show thr l (k + 1) = t1 ++ [k] from by simpa using ht)
        clear ht
        generalize hm : t1.length = m1 at *
        have HX := Lib.hid (show nis t1 ++ [.int .i64 (k : Int)] = nis (t1 ++ [k]) from by simp [nis])
        have HM := Lib.hid (show (t1 ++ [k]).length = m1 + 1 from by simp [hm])
        have S4 := Lib.hid ((s2.alloc (.cells #[.int .i64 (k : Int)] 3)).eq (sep_left_comm _ _ _))
        have hrd := Lib.hid (Rd.new wr #[.int .i64 (k : Int)] 3)
        clear s2 hm
        go_wp2_with (at_builtin; go_must (refine wpl_append rfl _ _ rfl tI S4.out (some ⟨wr.heap.size, 0, none⟩) 1 1 [.int .i64 (k : Int)] rfl rfl hrd.out (fun e => by cases e) (by simp) (by simp [Value.oneCell']) (by unfold maxLen; omega) (by omega) ?_); intro v5 w5 s5 _; rw [HX.out, ← HM.out] at s5; have S6 := Lib.hid ((s5.eq (sep_left_comm _ _ _)).right); clear s5 S4 hrd HX)
        go_roundw
        case rel => exact ⟨k + 1, by omega, by go_num, by rw [HT.out, HM.out]; omega, by rw [HT.out]; exact S6.out⟩
        case measure => simp [intOf]; omega
    · obtain rfl : k = ll := by omega
      have S2 := Lib.hid s2
      clear s2
      go_wp2_with fail
      go_ret
      exact ⟨_, rfl, S2.out⟩
end
end Go.Proofs.Ytjnfhppjkadlpaa.Cd
