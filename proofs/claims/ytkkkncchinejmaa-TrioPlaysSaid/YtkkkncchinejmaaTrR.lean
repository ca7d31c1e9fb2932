/- The document's Split, walked. No condition. -/
import Derived.Test.YtkkkncchinejmaaTrS
import Derived.Test.YtkkkncchinejmaaStr
namespace Go.Proofs.Ytkkkncchinejmaa.TrR
open Go Go.RowKit Go.Proofs.Ytkkkncchinejmaa Go.Proofs.Ytkkkncchinejmaa.Sp Go.Proofs.Ytkkkncchinejmaa.Reg Go.Proofs.Ytkkkncchinejmaa.SlW Go.Proofs.Ytkkkncchinejmaa.Fus Go.Proofs.Ytkkkncchinejmaa.TrM Go.Proofs.Ytkkkncchinejmaa.Str
/-- What the document's Split gives. -/
def RSpP (B : Nat) (w0 : World) (R : HP) (b : List UInt8) (e : Ending) (w' : World) : Prop :=
  ∃ v, e = .returned (.tuple #[v, .int .i64 (jn (spl b)).length]) ∧ St B w0 w' (row 9 1 v (spl b).length (sv (spl b)) * R)
section
variable {B : Nat} {w0 : World} {R : HP}
set_option maxRecDepth 100000 in
set_option maxHeartbeats 4000000 in
theorem rsplit_calls (b : List UInt8) (w : World) (hn : b.length ≤ 1000000) (s : St B w0 w R) : Calls Try.prog 14 #[str b] w (RSpP B w0 R b) := by
  have hsz : (⟨b.toArray⟩ : ByteArray).size = b.length := by simp [ByteArray.size]
  have S := Lib.hid s
  clear s
  go_enter Try.func14, Try.ntmps14
  go_wp2_with fail
  go_loopw [4, 5] (fun v i wr => ∃ (l : List (List UInt8)) (rest : List UInt8), b = jn l ++ rest ∧ spl b = l ++ spl rest ∧ i = .int .i64 (jn l).length ∧ l.length ≤ (jn l).length ∧ St B w0 wr (row 9 1 v l.length (sv l) * R)) (fun _ i _ => b.length - (intOf i).toNat)
  case atStart => exact ⟨[], b, rfl, rfl, rfl, Nat.le_refl _, S.out.rowNil _ _⟩
  case round =>
    obtain ⟨l, rest, e1, e2, rfl, hle, s1⟩ := hrel
    clear S
    have hlen : b.length = (jn l).length + rest.length := by rw [e1, List.length_append]
    obtain ⟨av, cv, rfl, -⟩ := s1.rowSlice
    generalize hm : (jn l).length = m at *
    cases rest with
    | nil =>
      have hge : ¬ (m : Int) < (b.length : Int) := by simp at hlen; omega
      have E := Lib.hid (And.intro e1 e2)
      have S1 := Lib.hid s1
      have Hm := Lib.hid hm
      clear hm
      clear e1 e2 hlen s1
      go_wp2_with fail
      go_ret2
      obtain ⟨e1, e2⟩ := E.out
      rw [spl_nil, List.append_nil] at e2
      unfold RSpP
      rw [e2, Hm.out]
      exact ⟨_, rfl, S1.out⟩
    | cons x r =>
      simp only [List.length_cons] at hlen
      have hlt : (m : Int) < (b.length : Int) := by omega
      have hix : ∀ w, (Instr.index 9 (str b) (.int .i64 (m : Int))).run Try.prog w = .ok (.int .u8 (x.toNat : Int)) w := fun w => by
        have q := run_str_at Try.underlying9 w b .i64 m (by omega)
        have : b[m]'(by omega) = x := by
          have e3 : b[m]? = some x := by rw [e1, ← hm]; simp
          simpa [List.getElem?_eq_getElem (show m < b.length by omega)] using e3
        rw [q, this]
      by_cases h1 : x.toNat = 0 ∨ 250 < x.toNat ∨ r.length < x.toNat
      · have e3 : spl b = l := by rw [e2, spl_bad h1, List.append_nil]
        have E := Lib.hid e3
        have S1 := Lib.hid s1
        have Hm := Lib.hid hm
        clear hm
        clear e1 e2 e3 s1 hle
        have hx9 : (x.toNat : Int) ≤ 255 := by have := x.toNat_lt; omega
        have hx8 : (0 : Int) ≤ (x.toNat : Int) := by omega
        have h2 : ((x.toNat : Int) == 0) = true ∨ ((x.toNat : Int) == 0) = false ∧ (250 : Int) < x.toNat ∨ ((x.toNat : Int) == 0) = false ∧ ¬ (250 : Int) < x.toNat ∧ (b.length : Int) - m - 1 < x.toNat := by simp; omega
        clear h1 hlen
        generalize x.toNat = y at *
        rcases h2 with h2 | ⟨h2, h3⟩ | ⟨h2, h3, h4⟩
        all_goals
          go_wp2_with fail
          go_ret2
          unfold RSpP
          rw [E.out, Hm.out]
          exact ⟨_, rfl, S1.out⟩
      · have hx1 : ((x.toNat : Int) == 0) = false := by simp; omega
        have hx8 : (0 : Int) ≤ (x.toNat : Int) := by omega
        have hx2 : ¬ (250 : Int) < x.toNat := by omega
        have hx3 : ¬ (b.length : Int) - m - 1 < x.toNat := by omega
        have hxl : x.toNat ≤ r.length := by omega
        have e3 : spl b = (l ++ [r.take x.toNat]) ++ spl (r.drop x.toNat) := by rw [e2, spl_good h1]; simp
        have hlt' : (r.take x.toNat).length = x.toNat := by rw [List.length_take]; omega
        have e4 : b = jn (l ++ [r.take x.toNat]) ++ r.drop x.toNat := by
          rw [jn_append, jn_one, jn1, hlt', e1]
          simp
        have e5 : (b.drop (m + 1)).take x.toNat = r.take x.toNat := by
          have e6 : b = (jn l ++ [x]) ++ r := by rw [e1]; simp
          rw [e6, List.drop_left' (by simp [hm])]
        have hsl : ∀ w, (Instr.sliceAt 9 (str b) (some (.int .i64 ((m : Int) + 1))) (some (.int .i64 ((m : Int) + 1 + x.toNat))) none).run Try.prog w = .ok (str (r.take x.toNat)) w := fun w => by
          have := run_str_mid Try.underlying9 w b .i64 .i64 (m + 1) (m + 1 + x.toNat) (by omega) (by omega)
          rw [show m + 1 + x.toNat - (m + 1) = x.toNat by omega, e5] at this
          exact this
        generalize hP : r.take x.toNat = P at *
        generalize hQ : r.drop x.toNat = Q2 at *
        have hjn : (jn (l ++ [P])).length = m + 1 + x.toNat := by rw [jn_append, jn_one, List.length_append, jn1_len, hlt', hm]; omega
        generalize hy : x.toNat = y at *
        have E := Lib.hid (And.intro e4 (And.intro e3 hjn))
        have s3 := s1.alloc (.cells #[str P] 9)
        have S3 := Lib.hid (St.eq (Q := row 9 1 (.slice av l.length cv) l.length (sv l) * (pts wr.heap.size (.cells #[str P] 9) * R)) (by ac_rfl) s3)
        have hr := Lib.hid (Rd.new wr #[str P] 9)
        have hln : l.length ≤ 1000000 := by omega
        have hyl : y ≤ b.length := by omega
        have Hm := Lib.hid hm
        have Hsl := Lib.hid hsl
        have Hle := Lib.hid hle
        clear hm hsl hle
        clear e1 e2 e3 e4 e5 h1 hP hQ hjn hlt' s1 s3 hxl hlen hy
        have hsl := Hsl.out
        go_wp2_with (at_builtin; go_must (refine wpl_append rfl _ _ rfl tSS S3.out (some ⟨wr.heap.size, 0, none⟩) 1 1 [str P] rfl rfl hr.out (fun e => by cases e) (by simp) (by simp [Value.oneCell']) (by unfold maxLen; omega) (by omega) ?_); intro v5 w5 s5 hv5; have S5 := Lib.hid s5; clear s5 hv5 S3 hr)
        go_roundw
        case rel =>
          obtain ⟨e4, e3, hjn⟩ := E.out
          refine ⟨l ++ [P], Q2, e4, e3, by rw [hjn]; go_num, ?_, ?_⟩
          · rw [hjn, List.length_append]
            have := Hle.out
            simp
            omega
          · rw [show sv (l ++ [P]) = sv l ++ [str P] by simp [sv], List.length_append]
            exact (S5.out.eq (sep_left_comm _ _ _)).right
        case measure => simp [intOf]; omega
end
end Go.Proofs.Ytkkkncchinejmaa.TrR
