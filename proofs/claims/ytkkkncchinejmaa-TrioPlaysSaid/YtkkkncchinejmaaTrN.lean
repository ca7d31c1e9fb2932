/- Package trio, walked: Mend. No condition. -/
import Derived.Test.YtkkkncchinejmaaTrO
namespace Go.Proofs.Ytkkkncchinejmaa.TrW
open Go Go.RowKit Go.Proofs.Ytkkkncchinejmaa Go.Proofs.Ytkkkncchinejmaa.Sp Go.Proofs.Ytkkkncchinejmaa.Reg Go.Proofs.Ytkkkncchinejmaa.SlW Go.Proofs.Ytkkkncchinejmaa.Fus Go.Proofs.Ytkkkncchinejmaa.TrM Go.Proofs.Ytkkkncchinejmaa.TapW
/-- Mend's tape: the first live one of the others. -/
def mendFrom (Ts : List Tp) (i : Nat) : Option Nat := [0, 1, 2].find? fun k => decide (k ≠ i) && !(Ts.getD k Tp.new).gone
/-- Mend. -/
def trMend (F : Option Fu) (Ts : List Tp) (i : Int) : Int × Option Fu × List Tp :=
  if i < 0 ∨ 3 ≤ i ∨ (Ts.getD i.toNat Tp.new).gone = true then (1, F, Ts)
  else match mendFrom Ts i.toNat with
    | none => (8, F, Ts)
    | some k => ((tWrite F (Ts.getD i.toNat Tp.new) 0 (Ts.getD k Tp.new).b).1, (tWrite F (Ts.getD i.toNat Tp.new) 0 (Ts.getD k Tp.new).b).2.1, Ts.set i.toNat (tWrite F (Ts.getD i.toNat Tp.new) 0 (Ts.getD k Tp.new).b).2.2)
theorem find3 {p : Nat → Bool} {k : Nat} (hk : k < 3) (h4 : p k = true) (h3 : ∀ j, j < k → p j = false) : [0, 1, 2].find? p = some k := by
  obtain rfl | rfl | rfl : k = 0 ∨ k = 1 ∨ k = 2 := by omega
  · simp only [List.find?, h4]
  · simp only [List.find?, h4, h3 0 (by omega)]
  · simp only [List.find?, h4, h3 0 (by omega), h3 1 (by omega)]
theorem find3n {p : Nat → Bool} (h3 : ∀ j, j < 3 → p j = false) : [0, 1, 2].find? p = none := by
  simp only [List.find?, h3 0 (by omega), h3 1 (by omega), h3 2 (by omega)]
theorem mend_some {Ts : List Tp} {i k : Nat} (hk : k < 3) (h1 : k ≠ i) (h2 : (Ts.getD k Tp.new).gone = false) (h3 : ∀ j, j < k → (decide (j ≠ i) && !(Ts.getD j Tp.new).gone) = false) : mendFrom Ts i = some k :=
  find3 hk (by rw [h2]; simpa using h1) h3
theorem mend_none {Ts : List Tp} {i : Nat} (h3 : ∀ j, j < 3 → (decide (j ≠ i) && !(Ts.getD j Tp.new).gone) = false) : mendFrom Ts i = none := find3n h3
section
variable {B : Nat} {w0 : World} {R : HP}
theorem live_tps {x : Option Addr} {ps : List Nat} {Ts : List Tp} {i : Nat} (h1 : i < ps.length) (h2 : i < Ts.length) (w : World) (s : St B w0 w (tps x ps Ts * R)) :
    Calls Try.prog 51 #[pp (ps.getD i 0)] w (RetS B w0 (tps x ps Ts * R) (.bool (!(Ts.getD i Tp.new).gone))) :=
  (live1_calls _ _ _ w (tps_out (get_p h1) (get_T h2) s)).mono fun _ _ ⟨e, s⟩ => ⟨e, tps_back (get_p h1) (get_T h2) s⟩
set_option maxRecDepth 100000 in
set_option maxHeartbeats 16000000 in
theorem mend_calls (F : Option Fu) (Ts : List Tp) (n b p0 p1 p2 : Nat) (x : Option Addr) (i : Int) (hT : Ts.length = 3) (w : World) (s : St B w0 w (trx b x [p0, p1, p2] n Ts F * R)) :
    Calls Try.prog 27 #[pp b, .int .i64 i] w (RetS B w0 (trx b x [p0, p1, p2] n (trMend F Ts i).2.2 (trMend F Ts i).2.1 * R) (.int .i64 (trMend F Ts i).1)) := by
  have s1 := s.eq (Q := tro b p0 p1 p2 n * (tps x [p0, p1, p2] Ts * (fz (.pointer x) F * R))) (by rw [trx_eq]; ac_rfl)
  have c0 := St.cell s1 0
  have c1 := St.cell s1 1
  have c2 := St.cell s1 2
  simp at c0 c1 c2
  have HEND := Lib.hid (fun (Ts' : List Tp) (F' : Option Fu) (w' : World) (h : St B w0 w' (tps x [p0, p1, p2] Ts' * (tro b p0 p1 p2 n * (fz (.pointer x) F' * R)))) => show St B w0 w' (trx b x [p0, p1, p2] n Ts' F' * R) from h.eq (by rw [trx_eq]; ac_rfl))
  have s2 := s1.eq (Q := tps x [p0, p1, p2] Ts * (tro b p0 p1 p2 n * (fz (.pointer x) F * R))) (by ac_rfl)
  by_cases hi : i < 0 ∨ 3 ≤ i
  · have E := Lib.hid (show trMend F Ts i = (1, F, Ts) by unfold trMend; rw [if_pos (by omega)])
    have hi' : i < 0 ∨ ¬ i < 0 ∧ 3 ≤ i := by omega
    have S2 := Lib.hid s2
    clear s s1 s2 hi c0 c1 c2
    have HT := Lib.hid hT
    clear hT
    rcases hi' with h | ⟨h, h2⟩
    all_goals
      go_enter Try.func27, Try.ntmps27
      go_wp2_with fail
      go_ret
      rw [E.out]
      exact ⟨rfl, HEND.out _ _ _ S2.out⟩
  · obtain ⟨k0, rfl⟩ : ∃ k : Nat, i = k := ⟨i.toNat, by omega⟩
    have hk0 : k0 < 3 := by omega
    have hq := live_tps (i := k0) (by simpa using hk0) (by rw [hT]; exact hk0) w s2
    have hcell : w.cell? ⟨b, k0, none⟩ = some (pp ([p0, p1, p2].getD k0 0)) := by
      obtain rfl | rfl | rfl : k0 = 0 ∨ k0 = 1 ∨ k0 = 2 := by omega
      · exact c0
      · exact c1
      · exact c2
    have h1 : ¬ (k0 : Int) < 0 := by omega
    have h2 : ¬ (3 : Int) ≤ (k0 : Int) := by omega
    have h2' : (k0 : Int) < 3 := by omega
    by_cases hg : (Ts.getD k0 Tp.new).gone = true
    · have E := Lib.hid (show trMend F Ts k0 = (1, F, Ts) by unfold trMend; rw [if_pos (.inr (.inr (by simpa using hg)))])
      rw [hg] at hq
      have Q := Lib.hid hq
      clear s s1 s2 hi c0 c1 c2 hq hg
      generalize hp : [p0, p1, p2].getD k0 0 = p at *
      have HT := Lib.hid hT
      have Hp := Lib.hid hp
      clear hT hp
      go_enter Try.func27, Try.ntmps27
      go_wp2_with fail
      refine Q.out.mono ?_
      rintro e w1 ⟨rfl, s3⟩
      have S3 := Lib.hid s3
      clear s3 Q
      go_wp2_with fail
      go_ret
      rw [E.out]
      exact ⟨rfl, HEND.out _ _ _ S3.out⟩
    · have hg1 : (Ts.getD k0 Tp.new).gone = false := by simpa using hg
      have hE : trMend F Ts k0 = match mendFrom Ts k0 with
        | none => (8, F, Ts)
        | some k => ((tWrite F (Ts.getD k0 Tp.new) 0 (Ts.getD k Tp.new).b).1, (tWrite F (Ts.getD k0 Tp.new) 0 (Ts.getD k Tp.new).b).2.1, Ts.set k0 (tWrite F (Ts.getD k0 Tp.new) 0 (Ts.getD k Tp.new).b).2.2) := by
        unfold trMend
        rw [if_neg (by rw [Int.toNat_natCast]; rintro (h | h | h); omega; omega; exact hg h)]
        rfl
      rw [hg1] at hq
      have Q := Lib.hid hq
      have E := Lib.hid hE
      clear s s1 s2 hi hq hg hg1 hE
      generalize hp : [p0, p1, p2].getD k0 0 = p at *
      have HT := Lib.hid hT
      have Hp := Lib.hid hp
      clear hT hp
      go_enter Try.func27, Try.ntmps27
      go_wp2_with fail
      refine Q.out.mono ?_
      rintro e w1 ⟨rfl, s3⟩
      have hcl := fun (w' : World) (Y : HP) (s : St B w0 w' (tps x [p0, p1, p2] Ts * (tro b p0 p1 p2 n * Y))) => (show w'.cell? ⟨b, 0, none⟩ = some (pp p0) ∧ w'.cell? ⟨b, 1, none⟩ = some (pp p1) ∧ w'.cell? ⟨b, 2, none⟩ = some (pp p2) ∧ w'.cell? ⟨b, k0, none⟩ = some (pp p) from by
        have s' := s.right
        have e0 : w'.cell? ⟨b, 0, none⟩ = some (pp p0) := St.cell s' 0
        have e1 : w'.cell? ⟨b, 1, none⟩ = some (pp p1) := St.cell s' 1
        have e2 : w'.cell? ⟨b, 2, none⟩ = some (pp p2) := St.cell s' 2
        refine ⟨e0, e1, e2, ?_⟩
        rw [← Hp.out]
        obtain rfl | rfl | rfl : k0 = 0 ∨ k0 = 1 ∨ k0 = 2 := by omega
        · exact e0
        · exact e1
        · exact e2)
      obtain ⟨d0, d1, d2, -⟩ := hcl w1 _ s3
      have S3 := Lib.hid s3
      have Hcl := Lib.hid hcl
      clear hcl
      clear s3 Q c0 c1 c2 hcell
      go_wp2_with fail
      clear d0 d1 d2
      go_loopw [29] (fun i wr => ∃ k : Nat, k ≤ 3 ∧ i = .int .i64 k ∧ (∀ j, j < k → (decide (j ≠ k0) && !(Ts.getD j Tp.new).gone) = false) ∧ St B w0 wr (tps x [p0, p1, p2] Ts * (tro b p0 p1 p2 n * (fz (.pointer x) F * R)))) (fun i _ => 3 - (intOf i).toNat)
      case atStart => exact ⟨0, Nat.zero_le _, rfl, fun j hj => absurd hj (Nat.not_lt_zero j), S3.out⟩
      case round =>
        obtain ⟨k, hk, rfl, hno, s4⟩ := hrel
        clear S3
        by_cases hlt : k < 3
        · obtain ⟨pk, hpk, hix⟩ : ∃ (pk : Nat), [p0, p1, p2].getD k 0 = pk ∧ ∀ w, (Instr.index 43 (.agg #[pp p0, pp p1, pp p2]) (.int .i64 (k : Int))).run Try.prog w = .ok (pp pk) w := by
            obtain rfl | rfl | rfl : k = 0 ∨ k = 1 ∨ k = 2 := by omega
            · exact ⟨p0, rfl, fun _ => by kernel_rfl⟩
            · exact ⟨p1, rfl, fun _ => by kernel_rfl⟩
            · exact ⟨p2, rfl, fun _ => by kernel_rfl⟩
          have hq := live_tps (i := k) (by simpa using hlt) (by rw [HT.out]; exact hlt) _ s4
          rw [hpk] at hq
          have hltI : (k : Int) < 3 := by omega
          by_cases hkk : k = k0
          · subst hkk
            have S4 := Lib.hid s4
            have Hno := Lib.hid hno
            clear s4 hno hq hpk
            go_wp2_with fail
            go_roundw
            case rel => exact ⟨k + 1, by omega, by go_num, fun j hj => by by_cases e : j = k; (subst e; simp); exact Hno.out j (by omega), S4.out⟩
            case measure => simp [intOf]; omega
          · have hkk' : ((k : Int) != (k0 : Int)) = true := by simp; omega
            have hkk2 : ((k : Int) == (k0 : Int)) = false := by simp; omega
            cases hg : (Ts.getD k Tp.new).gone with
            | true =>
              rw [hg] at hq
              have Q := Lib.hid hq
              have Hno := Lib.hid (show ∀ j, j < k + 1 → (decide (j ≠ k0) && !(Ts.getD j Tp.new).gone) = false from fun j hj => by
                by_cases e : j = k
                · subst e; rw [hg]; simp
                · exact hno j (by omega))
              clear s4 hno hq hpk hg hkk
              go_wp2_with fail
              refine Q.out.mono ?_
              rintro e w5 ⟨rfl, s5⟩
              have S5 := Lib.hid s5
              clear s5 Q
              go_wp2_with fail
              go_roundw
              case rel => exact ⟨k + 1, by omega, by go_num, Hno.out, S5.out⟩
              case measure => simp [intOf]; omega
            | false =>
              rw [hg] at hq
              have Q := Lib.hid hq
              have hE := E.out
              rw [mend_some hlt hkk hg hno] at hE
              have E2 := Lib.hid hE
              have HG := Lib.hid hg
              have HPK := Lib.hid hpk
              clear s4 hno hq hpk hg hkk hE E
              go_wp2_with fail
              refine Q.out.mono ?_
              rintro e w5 ⟨rfl, s5⟩
              have s6 := tps_out (get_p (show k < [p0, p1, p2].length by simpa using hlt)) (get_T (show k < Ts.length by rw [HT.out]; exact hlt)) s5
              obtain ⟨-, -, -, hok, -⟩ := tp_open s6
              have hbl := hok.2
              have q := bytes_calls _ _ _ _ s6
              rw [HPK.out, show tBytes (Ts.getD k Tp.new) = (Ts.getD k Tp.new).b by unfold tBytes; rw [HG.out]; rfl, show tErr (Ts.getD k Tp.new) = 0 by unfold tErr; rw [HG.out]; rfl] at q
              have HBK := Lib.hid (fun (w' : World) (Y : HP) (s : St B w0 w' _) => tps_back (x := x) (R := Y) (get_p (show k < [p0, p1, p2].length by simpa using hlt)) (get_T (show k < Ts.length by rw [HT.out]; exact hlt)) s)
              have hE : trMend F Ts k0 = ((tWrite F (Ts.getD k0 Tp.new) 0 (Ts.getD k Tp.new).b).1, (tWrite F (Ts.getD k0 Tp.new) 0 (Ts.getD k Tp.new).b).2.1, Ts.set k0 (tWrite F (Ts.getD k0 Tp.new) 0 (Ts.getD k Tp.new).b).2.2) := E2.out
              generalize hT2 : Ts.getD k Tp.new = T at *
              have Q2 := Lib.hid q
              have E3 := Lib.hid hE
              have HT2 := Lib.hid hT2
              clear hT2
              clear s5 s6 Q q hok hE E2
              go_wp2_with fail
              refine Q2.out.mono ?_
              rintro e w6 ⟨a6, c6, rfl, s7⟩
              have s8 := s7.eq (Q := tp (pp ([p0, p1, p2].getD k 0)) (.pointer x) T * (tps x ([p0, p1, p2].eraseIdx k) (Ts.eraseIdx k) * (row 5 1 (.slice a6 T.b.length c6) T.b.length (bvs T.b) * (tro b p0 p1 p2 n * (fz (.pointer x) F * R))))) (by rw [HPK.out]; ac_rfl)
              have s9 := HBK.out w6 _ s8
              have hcl6 := Hcl.out w6 (row 5 1 (.slice a6 T.b.length c6) T.b.length (bvs T.b) * (fz (.pointer x) F * R)) (s9.eq (by ac_rfl))
              have d3 := hcl6.2.2.2
              have s10 := tps_out (get_p (show k0 < [p0, p1, p2].length by simpa using hk0)) (get_T (show k0 < Ts.length by rw [HT.out]; exact hk0)) s9
              have q := write_calls F (Ts.getD k0 Tp.new) 0 T.b _ x a6 c6 w6 (R := row 5 1 (.slice a6 T.b.length c6) T.b.length (bvs T.b) * (tps x ([p0, p1, p2].eraseIdx k0) (Ts.eraseIdx k0) * (tro b p0 p1 p2 n * R))) (reads_right _ reads_row) (Nat.zero_le _) (by omega) (s10.eq (by ac_rfl))
              rw [Hp.out] at q
              have HIN := Lib.hid (fun (w' : World) (T' : Tp) (Y : HP) (s : St B w0 w' _) => tps_in (x := x) (T := T') (R := Y) (get_p (show k0 < [p0, p1, p2].length by simpa using hk0)) (show k0 < Ts.length by rw [HT.out]; exact hk0) s)
              have hE := E3.out
              generalize tWrite F (Ts.getD k0 Tp.new) 0 T.b = W at *
              obtain ⟨e1, F1, T1⟩ := W
              simp only at hE q
              have Q3 := Lib.hid q
              have E4 := Lib.hid hE
              clear s7 s8 s9 s10 hcl6 q hE E3 Q2
              go_wp2_with fail
              refine Q3.out.mono ?_
              rintro e w7 ⟨rfl, s11⟩
              have S11 := Lib.hid (HIN.out w7 T1 (row 5 1 (.slice a6 T.b.length c6) T.b.length (bvs T.b) * (tro b p0 p1 p2 n * (fz (.pointer x) F1 * R))) (s11.eq (by rw [Hp.out]; ac_rfl)))
              clear s11 Q3 d3
              go_wp2_with fail
              go_ret
              rw [E4.out]
              exact ⟨rfl, HEND.out _ _ _ ((S11.out.eq (sep_left_comm _ _ _)).right)⟩
        · obtain rfl : k = 3 := by omega
          have hE := E.out
          rw [mend_none hno] at hE
          have E2 := Lib.hid hE
          have S4 := Lib.hid s4
          clear s4 hno hE E
          go_wp2_with fail
          go_ret
          rw [E2.out]
          exact ⟨rfl, HEND.out _ _ _ S4.out⟩
end
end Go.Proofs.Ytkkkncchinejmaa.TrW
