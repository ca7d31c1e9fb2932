/- The document's trio, walked: Open, its walk. No condition. -/
import Derived.Test.YtkkkncchinejmaaTrV6
set_option linter.unusedSimpArgs false
set_option linter.unusedVariables false
namespace Go.Proofs.Ytkkkncchinejmaa.TrV
open Go Go.RowKit Go.Proofs.Ytkkkncchinejmaa Go.Proofs.Ytkkkncchinejmaa.Sp Go.Proofs.Ytkkkncchinejmaa.Reg Go.Proofs.Ytkkkncchinejmaa.SlW Go.Proofs.Ytkkkncchinejmaa.Fus Go.Proofs.Ytkkkncchinejmaa.TrM Go.Proofs.Ytkkkncchinejmaa.TapW Go.Proofs.Ytkkkncchinejmaa.TapR Go.Proofs.Ytkkkncchinejmaa.TrW Go.Proofs.Ytkkkncchinejmaa.Str Go.Proofs.Ytkkkncchinejmaa.TrR
section
variable {B : Nat} {w0 : World} {R : HP}
set_option maxRecDepth 100000 in
set_option maxHeartbeats 40000000 in
theorem ropen_calls (fb p0 p1 p2 : Nat) (Ts : List Tp) (F : Fu) (hok : Rok Ts F) (w : World) (s : St B w0 w (rtps (.pointer (some ⟨fb, 0, none⟩)) [p0, p1, p2] Ts * (rfz fb F * R))) :
    Calls Try.prog 36 #[.agg #[pp p0, pp p1, pp p2]] w (ROpP B w0 fb p0 p1 p2 Ts F R) := by
  have s1 := s.alloc (.cells #[pp p0, pp p1, pp p2] 62)
  have c0 := s1.cell 0
  have c1 := s1.cell 1
  have c2 := s1.cell 2
  simp at c0 c1 c2
  have s2 := s1.alloc (.cells #[pp p0, pp p1, pp p2, .int .i64 0] 64)
  have hmem : ∀ T ∈ Ts, T.b.length ≤ 65536 := fun T hT => by
    obtain ⟨i, hi, rfl⟩ := List.getElem_of_mem hT
    have := (hok.ok i).2
    rwa [show Ts.getD i Tp.new = Ts[i] by simp [List.getD, hi]] at this
  have hct := fun k => cnt_ok Ts (lvk Ts k) hmem
  have hbl := fun i => (hok.ok i).2
  have hll := lvi_len Ts
  generalize hg : (w.alloc (.cells #[pp p0, pp p1, pp p2] 62)).heap.size = g at *
  generalize hq : w.heap.size = q at *
  have s3 : St B w0 ((w.alloc (.cells #[pp p0, pp p1, pp p2] 62)).alloc (.cells #[pp p0, pp p1, pp p2, .int .i64 0] 64)) (Hr fb g p0 p1 p2 0 Ts F (emp * (pts q (.cells #[pp p0, pp p1, pp p2] 62) * R))) := s2.eq (by unfold Hr rtro; rw [emp_sep]; ac_rfl)
  have ql := hr_live _ hok.len s3
  have HW := Lib.hid (And.intro hq hg)
  by_cases h2 : (lvi Ts).length < 2
  · have E := Lib.hid (fun e w' => (show ROpP B w0 fb p0 p1 p2 Ts F R e w' = ROpNo B w0 fb p0 p1 p2 Ts F 8 R e w' by unfold ROpP; rw [if_pos h2]))
    have h2' : ((lvi Ts).length : Int) < 2 := by omega
    generalize (lvi Ts).length = m at *
    have Q := Lib.hid ql
    have Hok := Lib.hid hok
    have Hct := Lib.hid hct
    have Hbl := Lib.hid hbl
    clear hok hct hbl
    clear s s1 s2 s3 ql h2 hmem
    go_enter Try.func36, Try.ntmps36
    go_wp2_with fail
    refine Q.out.mono ?_
    rintro e w1 ⟨rfl, s1⟩
    have S1 := Lib.hid s1
    clear s1 Q
    go_wp2_with fail
    go_ret3
    rw [E.out]
    exact ⟨rfl, hr_no (S1.out.eq (Q := Hr fb g p0 p1 p2 0 Ts F (emp * pts q (.cells #[pp p0, pp p1, pp p2] 62) * R)) (by rw [sep_assoc]))⟩
  · have h2' : ¬ ((lvi Ts).length : Int) < 2 := by omega
    have E := Lib.hid (fun e w' => (show ROpP B w0 fb p0 p1 p2 Ts F R e w' = if (opK (some F) Ts (lvi Ts) (best Ts)).1 = 0 then ROpYes B w0 fb p0 p1 p2 (opK (some F) Ts (lvi Ts) (best Ts)).2.2 ((opK (some F) Ts (lvi Ts) (best Ts)).2.1.getD F) (best Ts) R e w' else ROpNo B w0 fb p0 p1 p2 (opK (some F) Ts (lvi Ts) (best Ts)).2.2 ((opK (some F) Ts (lvi Ts) (best Ts)).2.1.getD F) (opK (some F) Ts (lvi Ts) (best Ts)).1 R e w' by unfold ROpP; rw [if_neg h2]))
    generalize hm : (lvi Ts).length = m at *
    have Q := Lib.hid ql
    have Hok := Lib.hid hok
    have Hct := Lib.hid hct
    have Hbl := Lib.hid hbl
    clear hok hct hbl
    clear s s1 s2 s3 ql h2 hmem hm
    go_enter Try.func36, Try.ntmps36
    go_wp2_with fail
    refine Q.out.mono ?_
    rintro e w1 ⟨rfl, s1⟩
    have S1 := Lib.hid s1
    clear s1 Q c0 c1 c2
    go_wp2_with fail
    go_loopw [6, 7] (fun v i wr => ∃ (k : Nat) (X : HP), k ≤ 3 ∧ i = .int .i64 k ∧ SRd B w0 X v (cnt (rcs Ts (lvk Ts k))) ∧ St B w0 wr (Hr fb g p0 p1 p2 0 Ts F (X * (pts q (.cells #[pp p0, pp p1, pp p2] 62) * R)))) (fun _ i _ => 3 - (intOf i).toNat)
    case atStart => exact ⟨0, emp, Nat.zero_le _, rfl, SRd.nil, S1.out⟩
    case round =>
      obtain ⟨k, X, hk, rfl, hsr, s1⟩ := hrel
      clear S1
      by_cases hlt : k < 3
      · have hkI : (k : Int) < 3 := by omega
        have HQK := Lib.hid (fun w' X' (s : St B w0 w' (Hr fb g p0 p1 p2 0 Ts F (X' * (pts q (.cells #[pp p0, pp p1, pp p2] 62) * R)))) => show w'.cell? ⟨q, k, none⟩ = some (pp ([p0, p1, p2].getD k 0)) ∧ w'.cell? ⟨[p0, p1, p2].getD k 0, 0, none⟩ = some (str (Ts.getD k Tp.new).b) ∧ w'.cell? ⟨[p0, p1, p2].getD k 0, 2, none⟩ = some (.bool (!(Ts.getD k Tp.new).gone)) from ⟨hr_q s k hlt, hr_c Hok.out.len s k hlt⟩)
        have HBK := Lib.hid (Hbl.out k)
        cases hg : (Ts.getD k Tp.new).gone with
        | true =>
          have hrc := rcs_gone (Ts := Ts) hg
          rw [hg] at HQK
          generalize hpk : [p0, p1, p2].getD k 0 = pk at HQK
          generalize hbk : (Ts.getD k Tp.new).b = bk at HQK HBK
          have HRC := Lib.hid hrc
          have HSR := Lib.hid hsr
          have S1 := Lib.hid s1
          clear hrc hsr s1 hg hpk hbk hlt
          go_wp2_with fail
          go_loopw [6, 8] (fun v j wr => ∃ (j' : Nat) (X : HP), j' ≤ k ∧ j = .int .i64 j' ∧ SRd B w0 X v (cnt (rcs Ts (lvk Ts k))) ∧ St B w0 wr (Hr fb g p0 p1 p2 0 Ts F (X * (pts q (.cells #[pp p0, pp p1, pp p2] 62) * R)))) (fun _ j _ => k - (intOf j).toNat)
          case atStart => exact ⟨0, X, Nat.zero_le _, rfl, HSR.out, S1.out⟩
          case round =>
            obtain ⟨j, X, hj, rfl, hsr, s1⟩ := hrel
            clear S1 HSR
            by_cases hlt : j < k
            · have hjI : (j : Int) < (k : Int) := by omega
              obtain ⟨c1, -, c3⟩ := HQK.out _ _ s1
              simp at c3
              have HSR := Lib.hid hsr
              have S1 := Lib.hid s1
              clear hsr s1 hlt
              go_wp2_with fail
              go_roundw
              case rel => exact ⟨j + 1, X, by omega, by go_num, HSR.out, S1.out⟩
              case measure => simp [intOf]; omega
            · obtain rfl : j = k := by omega
              have hjI : ¬ (j : Int) < (j : Int) := by omega
              have HSR := Lib.hid hsr
              have S1 := Lib.hid s1
              clear hsr s1 hlt
              go_wp2_with fail
              go_roundw
              case rel => exact ⟨j + 1, X, by omega, by go_num, by rw [HRC.out]; exact HSR.out, S1.out⟩
              case measure => simp [intOf]; omega
        | false =>
          have hrc := rcs_live (Ts := Ts) hg
          have hcs := cnt_snoc (spl (Ts.getD k Tp.new).b) (rcs Ts (lvk Ts k))
          rw [← hrc] at hcs
          rw [hg] at HQK
          generalize hpk : [p0, p1, p2].getD k 0 = pk at HQK
          generalize hbk : (Ts.getD k Tp.new).b = bk at HQK HBK hcs
          generalize hc0 : cnt (rcs Ts (lvk Ts k)) = cn at *
          have HCS := Lib.hid hcs
          have HSR := Lib.hid hsr
          have S1 := Lib.hid s1
          clear hrc hcs hsr s1 hg hpk hbk hc0
          go_wp2_with fail
          go_loopw [6, 8] (fun v j wr => ∃ (j' : Nat) (X : HP), j' ≤ k ∧ j = .int .i64 j' ∧ SRd B w0 X v (cntIn (spl bk) (rcs Ts (lvk Ts j')) cn) ∧ St B w0 wr (Hr fb g p0 p1 p2 0 Ts F (X * (pts q (.cells #[pp p0, pp p1, pp p2] 62) * R)))) (fun _ j _ => k - (intOf j).toNat)
          case atStart => exact ⟨0, X, Nat.zero_le _, rfl, HSR.out, S1.out⟩
          case round =>
            obtain ⟨j, X, hj, rfl, hsr, s1⟩ := hrel
            clear S1 HSR
            by_cases hlj : j < k
            · have hjI : (j : Int) < (k : Int) := by omega
              have hjI3 : (j : Int) < 3 := by omega
              have HQJ := Lib.hid (fun w' X' (s : St B w0 w' (Hr fb g p0 p1 p2 0 Ts F (X' * (pts q (.cells #[pp p0, pp p1, pp p2] 62) * R)))) => show w'.cell? ⟨q, j, none⟩ = some (pp ([p0, p1, p2].getD j 0)) ∧ w'.cell? ⟨[p0, p1, p2].getD j 0, 0, none⟩ = some (str (Ts.getD j Tp.new).b) ∧ w'.cell? ⟨[p0, p1, p2].getD j 0, 2, none⟩ = some (.bool (!(Ts.getD j Tp.new).gone)) from ⟨hr_q s j (by omega), hr_c Hok.out.len s j (by omega)⟩)
              have HBJ := Lib.hid (Hbl.out j)
              obtain ⟨c1, c2, c3⟩ := HQK.out _ _ s1
              simp at c3
              obtain ⟨d1, d2, d3⟩ := HQJ.out _ _ s1
              cases hg : (Ts.getD j Tp.new).gone with
              | true =>
                have hrc := rcs_gone (Ts := Ts) hg
                rw [hg] at d3
                generalize [p0, p1, p2].getD j 0 = pj at *
                simp at d3
                have HRC := Lib.hid hrc
                have HSR := Lib.hid hsr
                have S1 := Lib.hid s1
                clear hsr s1 hlj hg hrc HQJ
                go_wp2_with fail
                go_roundw
                case rel => exact ⟨j + 1, X, by omega, by go_num, by rw [HRC.out]; exact HSR.out, S1.out⟩
                case measure => simp [intOf]; omega
              | false =>
                have hrc := rcs_live (Ts := Ts) hg
                have hcs := cntIn_snoc (spl bk) (rcs Ts (lvk Ts j)) (spl (Ts.getD j Tp.new).b) cn
                rw [← hrc] at hcs
                rw [hg] at d3
                generalize cntIn (spl bk) (rcs Ts (lvk Ts j)) cn = cb at *
                generalize [p0, p1, p2].getD j 0 = pj at *
                simp at d3
                generalize (Ts.getD j Tp.new).b = bj at *
                have HCS2 := Lib.hid hcs
                have HSR := Lib.hid hsr
                have Q1 := Lib.hid (rsplit_calls bk _ (by have := HBK.out; omega) s1)
                have S1 := Lib.hid s1
                clear hsr s1 hlj hg hrc hcs
                go_wp2_with fail
                refine Q1.out.mono ?_
                rintro e w2 ⟨v2, rfl, s2⟩
                have s2 := hr_x s2
                have HD := HQJ.out w2 _ (s2.eq (Q := Hr fb g p0 p1 p2 0 Ts F (row 9 1 v2 (spl bk).length (sv (spl bk)) * X * (pts q (.cells #[pp p0, pp p1, pp p2] 62) * R))) (by rw [sep_assoc]))
                obtain ⟨d1, d2, -⟩ := HD
                have Q2 := Lib.hid (rsplit_calls bj _ (by have := HBJ.out; omega) s2)
                obtain ⟨a2, k2, rfl, -⟩ := (hr_y s2).rowSlice
                clear s2 Q1 S1 c1 c2 c3 d3
                go_wp2_with fail
                refine Q2.out.mono ?_
                rintro e w3 ⟨v3, rfl, s3⟩
                obtain ⟨a3, k3, rfl, -⟩ := s3.rowSlice
                have hmle := (al_le (spl bk) (spl bj)).1
                have s3 : St B w0 w3 (row 9 1 (.slice a2 (spl bk).length k2) (spl bk).length (sv (spl bk)) * (row 9 1 (.slice a3 (spl bj).length k3) (spl bj).length (sv (spl bj)) * Hr fb g p0 p1 p2 0 Ts F (X * (pts q (.cells #[pp p0, pp p1, pp p2] 62) * R)))) := s3.eq (by unfold Hr; ac_rfl)
                have Q3 := Lib.hid (rcommon_calls a2 a3 k2 k3 (spl bk) (spl bj) w3 (Str.St.sl _ s3) (Str.St.sl _ s3.right))
                have S3 := Lib.hid s3
                clear s3 Q2 d1 d2
                go_wp2_with fail
                refine Q3.out.mono ?_
                rintro e w4 ⟨rfl, hadd⟩
                have s4 := S3.out.keep hadd
                have hnx : SRd B w0 (row 9 1 (.slice a2 (spl bk).length k2) (spl bk).length (sv (spl bk)) * (row 9 1 (.slice a3 (spl bj).length k3) (spl bj).length (sv (spl bj)) * X)) (.slice a2 (al (spl bk) (spl bj)) k2) ((spl bk).take (al (spl bk) (spl bj))) := (srd_row.right _).take hmle
                have hox := (HSR.out.left (row 9 1 (.slice a3 (spl bj).length k3) (spl bj).length (sv (spl bj)))).left (row 9 1 (.slice a2 (spl bk).length k2) (spl bk).length (sv (spl bk)))
                obtain ⟨ab, kb, rfl, -⟩ := HSR.out w4 (Hr fb g p0 p1 p2 0 Ts F (row 9 1 (.slice a2 (spl bk).length k2) (spl bk).length (sv (spl bk)) * (row 9 1 (.slice a3 (spl bj).length k3) (spl bj).length (sv (spl bj)) * (pts q (.cells #[pp p0, pp p1, pp p2] 62) * R)))) (s4.eq (by unfold Hr; ac_rfl))
                have s4 : St B w0 w4 (Hr fb g p0 p1 p2 0 Ts F (row 9 1 (.slice a2 (spl bk).length k2) (spl bk).length (sv (spl bk)) * (row 9 1 (.slice a3 (spl bj).length k3) (spl bj).length (sv (spl bj)) * X) * (pts q (.cells #[pp p0, pp p1, pp p2] 62) * R))) := s4.eq (by unfold Hr; ac_rfl)
                generalize row 9 1 (.slice a2 (spl bk).length k2) (spl bk).length (sv (spl bk)) * (row 9 1 (.slice a3 (spl bj).length k3) (spl bj).length (sv (spl bj)) * X) = X4 at *
                have hcs := HCS2.out
                generalize hal : al (spl bk) (spl bj) = m4 at *
                by_cases hf : cb.length < m4
                · rw [if_pos hf] at hcs
                  have hfI : (cb.length : Int) < (m4 : Int) := by omega
                  have HN := Lib.hid hnx
                  have HC := Lib.hid hcs
                  have S4 := Lib.hid s4
                  clear hf hnx hox hcs s4 S3 Q3 HSR HCS2 hadd hmle hal
                  go_wp2_with fail
                  go_roundw
                  case rel => exact ⟨j + 1, X4, by omega, by go_num, by rw [HC.out]; exact HN.out, S4.out⟩
                  case measure => simp [intOf]; omega
                · rw [if_neg hf] at hcs
                  have hfI : (m4 : Int) ≤ (cb.length : Int) := by omega
                  have HN := Lib.hid hox
                  have HC := Lib.hid hcs
                  have S4 := Lib.hid s4
                  clear hf hnx hox hcs s4 S3 Q3 HSR HCS2 hadd hmle hal
                  go_wp2_with fail
                  go_roundw
                  case rel => exact ⟨j + 1, X4, by omega, by go_num, by rw [HC.out]; exact HN.out, S4.out⟩
                  case measure => simp [intOf]; omega
            · obtain rfl : j = k := by omega
              have hjI : ¬ (j : Int) < (j : Int) := by omega
              have HSR := Lib.hid hsr
              have S1 := Lib.hid s1
              clear hsr s1 hlj
              go_wp2_with fail
              go_roundw
              case rel => exact ⟨j + 1, X, by omega, by go_num, by rw [HCS.out]; exact HSR.out, S1.out⟩
              case measure => simp [intOf]; omega
      · obtain rfl : k = 3 := by omega
        obtain ⟨hb1, hb2⟩ := Hct.out 3
        have hsr : SRd B w0 X _ (best Ts) := hsr
        have hb1 : ∀ r ∈ best Ts, okr r := hb1
        have hb2 : (jn (best Ts)).length ≤ 65536 := hb2
        generalize best Ts = bs at *
        obtain ⟨ab, kb, rfl, hlb, -⟩ := hsr wr _ (s1.eq (Q := Hr fb g p0 p1 p2 0 Ts F (pts q (.cells #[pp p0, pp p1, pp p2] 62) * R) * X) (by unfold Hr; ac_rfl))
        have Q1 := Lib.hid (rjoin_calls ab kb bs hb1 (by omega) wr (hsr wr _ (s1.eq (Q := Hr fb g p0 p1 p2 0 Ts F (pts q (.cells #[pp p0, pp p1, pp p2] 62) * R) * X) (by unfold Hr; ac_rfl))))
        have HSR := Lib.hid hsr
        have S1 := Lib.hid s1
        have HB1 := Lib.hid hb1
        have HB2 := Lib.hid hb2
        clear hsr s1 hlt hk hb1 hb2 hlb
        go_wp2_with fail
        refine Q1.out.mono ?_
        rintro e w2 ⟨rfl, hadd⟩
        have S2 := Lib.hid (S1.out.keep hadd)
        clear hadd Q1 S1
        go_wp2_with fail
        go_loopw [15] (fun i wr => ∃ (k : Nat) (F' : Fu) (Ts' : List Tp) (X : HP), k ≤ 3 ∧ i = .int .i64 k ∧ Rok Ts' F' ∧ (∀ i, (Ts'.getD i Tp.new).gone = (Ts.getD i Tp.new).gone) ∧ SRd B w0 X (.slice ab bs.length kb) bs ∧ opK (some F) Ts (lvi Ts) bs = opK (some F') Ts' (lvf Ts k) bs ∧ St B w0 wr (Hr fb g p0 p1 p2 0 Ts' F' (X * (pts q (.cells #[pp p0, pp p1, pp p2] 62) * R)))) (fun i _ => 3 - (intOf i).toNat)
        case atStart => exact ⟨0, F, Ts, X, Nat.zero_le _, rfl, Hok.out, fun _ => rfl, HSR.out, by rw [lvf_zero], S2.out⟩
        case round =>
          obtain ⟨k, F', Ts', X, hk, rfl, hok', hgn, hsr, hop, s1⟩ := hrel
          clear S2 HSR Hbl
          by_cases hlt : k < 3
          · have hkI : (k : Int) < 3 := by omega
            have c1 := hr_q s1 k hlt
            obtain ⟨c2, c3⟩ := hr_c hok'.len s1 k hlt
            have hbk := (hok'.ok k).2
            cases hg : (Ts.getD k Tp.new).gone with
            | true =>
              rw [hgn k, hg] at c3
              rw [lvf_gone hlt hg] at hop
              generalize [p0, p1, p2].getD k 0 = pk at *
              generalize (Ts'.getD k Tp.new).b = bk at *
              simp at c3
              have S1 := Lib.hid s1
              have HR := Lib.hid (And.intro hok' (And.intro hgn (And.intro hsr hop)))
              clear s1 hok' hgn hop hsr hg hlt
              go_wp2_with fail
              go_roundw
              case rel => exact ⟨k + 1, F', Ts', X, by omega, by go_num, HR.out.1, HR.out.2.1, HR.out.2.2.1, HR.out.2.2.2, S1.out⟩
              case measure => simp [intOf]; omega
            | false =>
              rw [hgn k, hg] at c3
              by_cases he : (Ts'.getD k Tp.new).b = jn bs
              · rw [opK_same hlt hg he] at hop
                rw [he] at c2
                generalize [p0, p1, p2].getD k 0 = pk at *
                simp at c3
                have S1 := Lib.hid s1
                have HR := Lib.hid (And.intro hok' (And.intro hgn (And.intro hsr hop)))
                clear s1 hok' hgn hop hsr hg hlt he hbk
                go_wp2_with fail
                go_roundw
                case rel => exact ⟨k + 1, F', Ts', X, by omega, by go_num, HR.out.1, HR.out.2.1, HR.out.2.2.1, HR.out.2.2.2, S1.out⟩
                case measure => simp [intOf]; omega
              · have hcut := fun w' X' m (s : St B w0 w' (Hr fb g p0 p1 p2 0 Ts' F' X')) => hr_cut w' k hlt hok' (m : Nat) s
                have hol := fun e F1 T1 m hm hW => opK_live (F := some F') (Ts := Ts') (Ts0 := Ts) (k := k) (bs := bs) hlt hg (e := e) (F1 := F1) (T1 := T1) (m := m) hm he hW
                have hlen := hok'.len
                have hq1 := fun w' X' T' F2 (s : St B w0 w' (Hr fb g p0 p1 p2 0 T' F2 (X' * (pts q (.cells #[pp p0, pp p1, pp p2] 62) * R)))) => hr_q s k hlt
                have happ := fun w' X' T' F2 (h : Rok T' F2) b hb (s : St B w0 w' (Hr fb g p0 p1 p2 0 T' F2 X')) => hr_app w' k hlt h b hb s
                have hsyn := fun w' X' T' F2 (h : Rok T' F2) (s : St B w0 w' (Hr fb g p0 p1 p2 0 T' F2 X')) => hr_sync w' k hlt h s
                have hxy : ∀ x y : List UInt8, x ≠ y → (x == y) = false := fun x y h => by simpa using h
                have hbe := hxy _ _ he
                have hkk : ∀ T, (Ts'.set k T).getD k Tp.new = T := fun T => set_self (by rw [hlen]; exact hlt) T
                generalize hpk : [p0, p1, p2].getD k 0 = pk at *
                simp at c3
                have hml := (al_le (spl (Ts'.getD k Tp.new).b) bs)
                have hat := al_take (spl (Ts'.getD k Tp.new).b) bs
                generalize hm0 : (jn (bs.take (al (spl (Ts'.getD k Tp.new).b) bs))).length = m0 at *
                have hm1 : m0 ≤ (jn bs).length := by rw [← hm0]; exact jn_take_le _ _
                have hmj : ∀ r ∈ (spl (Ts'.getD k Tp.new).b).take (al (spl (Ts'.getD k Tp.new).b) bs), okr r := fun r hr => spl_ok (List.mem_of_mem_take hr)
                have hm2 : (jn ((spl (Ts'.getD k Tp.new).b).take (al (spl (Ts'.getD k Tp.new).b) bs))).length = m0 := by rw [hat, hm0]
                have hcut := hcut (m := m0)
                have hgc := fun i => (set_gone (i := k) (j := i) (cut_gone (some F') (Ts'.getD k Tp.new) m0)).trans (hgn i)
                have hwc := fun e F1 T1 (h : tCut (some F') (Ts'.getD k Tp.new) (m0 : Nat) = (e, F1, T1)) => write_cut (b := jn bs) h
                have hrc := hok'.cut k hlt (m0 : Nat)
                have hso := cut_some F' (Ts'.getD k Tp.new) (m0 : Nat)
                generalize Ts'.getD k Tp.new = T at *
                generalize hW : tCut (some F') T (m0 : Nat) = W at *
                obtain ⟨e1, F1, T1⟩ := W
                obtain ⟨F2, rfl⟩ : ∃ F2, F1 = some F2 := ⟨_, hso⟩
                have hwc := hwc _ _ _ rfl
                simp only [Option.getD_some] at hcut hrc hgc
                generalize hbb : T.b = bb at *
                have hlm : ((spl bb).take (al (spl bb) bs)).length = al (spl bb) bs := by rw [List.length_take]; omega
                generalize hm4 : al (spl bb) bs = m4 at *
                have hjs : (⟨(jn ((spl bb).take m4)).toArray⟩ : ByteArray).size = m0 := by simp [ByteArray.size, hm2]
                have hmI : (m0 : Int) ≤ ((jn bs).length : Int) := by omega
                have Q1 := Lib.hid (rsplit_calls bb _ (by omega) s1)
                have HCUT := Lib.hid hcut
                have HOL := Lib.hid hol
                have HQ1 := Lib.hid hq1
                have HAPP := Lib.hid happ
                have HSYN := Lib.hid hsyn
                have HKK := Lib.hid hkk
                have HWC := Lib.hid hwc
                have HRC := Lib.hid hrc
                have HGC := Lib.hid hgc
                have HSR := Lib.hid hsr
                have HOP := Lib.hid hop
                have HJ1 := Lib.hid (show (jn ((spl bb).take m4)).length ≤ 1000000 from by have := HB2.out; omega)
                have HMJ := Lib.hid hmj
                have HLM := Lib.hid hlm
                have HM4 := Lib.hid (show m4 ≤ (spl bb).length ∧ al (spl bb) bs = m4 from ⟨hml.1, hm4⟩)
                have HXJ := Lib.hid (fun t => run_str_from (P := Try.prog) Try.underlying9 t (jn bs) .i64 m0 hm1)
                generalize hJB : jn bs = jb at *
                clear s1 hok' hgn hsr hop hg hlt he hcut hol hlen hq1 happ hsyn hxy hkk hml hat hm0 hm1 hmj hm2 hgc hwc hrc hso hW hbb hlm hm4 hpk hbk hJB
                go_wp2_with fail
                clear hbe
                refine Q1.out.mono ?_
                rintro e w2 ⟨v2, rfl, s2⟩
                obtain ⟨a2, k2, rfl, -⟩ := s2.rowSlice
                have h1 := Str.St.sl _ s2
                have s2 := (hr_x s2).eq (Q := Hr fb g p0 p1 p2 0 Ts' F' ((row 9 1 (.slice a2 (spl bb).length k2) (spl bb).length (sv (spl bb)) * X) * (pts q (.cells #[pp p0, pp p1, pp p2] 62) * R))) (by rw [sep_assoc])
                have hs5 := HSR.out.left (row 9 1 (.slice a2 (spl bb).length k2) (spl bb).length (sv (spl bb)))
                have hr5 : SRd B w0 (row 9 1 (.slice a2 (spl bb).length k2) (spl bb).length (sv (spl bb)) * X) (.slice a2 m4 k2) ((spl bb).take m4) := (srd_row.right _).take HM4.out.1
                generalize row 9 1 (.slice a2 (spl bb).length k2) (spl bb).length (sv (spl bb)) * X = X5 at *
                have hx : ∀ w' T' F2, St B w0 w' (Hr fb g p0 p1 p2 0 T' F2 (X5 * (pts q (.cells #[pp p0, pp p1, pp p2] 62) * R))) → St B w0 w' (Hr fb g p0 p1 p2 0 T' F2 (pts q (.cells #[pp p0, pp p1, pp p2] 62) * R) * X5) := fun _ _ _ s => s.eq (by unfold Hr; ac_rfl)
                have q3 := rcommon_calls a2 ab k2 kb (spl bb) bs w2 h1 (hs5 w2 _ (hx _ _ _ s2))
                rw [HM4.out.2] at q3
                have Q3 := Lib.hid q3
                have HX := Lib.hid hx
                have HR5 := Lib.hid hr5
                have HS5 := Lib.hid hs5
                have S2 := Lib.hid s2
                clear s2 h1 hs5 hr5 q3 hx Q1 HSR
                go_wp2_with fail
                refine Q3.out.mono ?_
                rintro e w3 ⟨rfl, hadd⟩
                have s3 := S2.out.keep hadd
                have q4 := rjoin_calls a2 k2 ((spl bb).take m4) HMJ.out HJ1.out w3 (by rw [HLM.out]; exact HR5.out w3 _ (HX.out _ _ _ s3))
                rw [HLM.out] at q4
                have Q4 := Lib.hid q4
                have S3 := Lib.hid s3
                clear s3 hadd q4 Q3 S2
                go_wp2_with fail
                refine Q4.out.mono ?_
                rintro e w4 ⟨rfl, hadd⟩
                have s4 := S3.out.keep hadd
                have c1 := HQ1.out w4 X5 _ _ s4
                have Q5 := Lib.hid (HCUT.out w4 _ s4)
                clear s4 hadd Q4 S3
                go_wp2_with fail
                refine Q5.out.mono ?_
                rintro e w5 ⟨rfl, s5⟩
                have S5 := Lib.hid s5
                clear s5 Q5 c1 HCUT HMJ HJ1 HLM HM4 HR5 HX
                by_cases he : e1 = 0
                · subst he
                  have hwc := HWC.out
                  rw [if_pos rfl] at hwc
                  have ha := fun w' s => HAPP.out w' (X5 * (pts q (.cells #[pp p0, pp p1, pp p2] 62) * R)) (Ts'.set k T1) F2 HRC.out (jb.drop m0) (by rw [List.length_drop]; have := HB2.out; omega) s
                  have hr2 := HRC.out.app k (by omega) (jb.drop m0)
                  have hg2 := fun i => (set_gone (i := k) (j := i) (app_gone (some F2) ((Ts'.set k T1).getD k Tp.new) (jb.drop m0))).trans (HGC.out i)
                  have hso := app_some F2 ((Ts'.set k T1).getD k Tp.new) (jb.drop m0)
                  simp only [HKK.out, List.set_set] at ha hr2 hg2 hso
                  generalize hW : tApp (some F2) T1 (jb.drop m0) = W at *
                  obtain ⟨e2, F3, T2⟩ := W
                  obtain ⟨F4, rfl⟩ : ∃ F4, F3 = some F4 := ⟨_, hso⟩
                  simp only [Option.getD_some] at ha hr2 hg2 hwc
                  have HA := Lib.hid ha
                  have HR2 := Lib.hid hr2
                  have HG2 := Lib.hid hg2
                  have HWC2 := Lib.hid hwc
                  clear ha hr2 hg2 hso hW hwc HWC HRC HGC HAPP
                  go_wp2_with fail
                  refine wp_region_rx (fun j w => St B w0 w (Hr fb g p0 p1 p2 0 (if j = 0 then Ts'.set k T1 else Ts'.set k T2) (if j = 0 then F2 else F4) (X5 * (pts q (.cells #[pp p0, pp p1, pp p2] 62) * R)))) [6] mixed (by kernel_rfl) (by kernel_rfl) S5.out.drew ?_
                  refine RXl.exact (.int .i64 ↑k) rfl rfl rfl rfl rfl (fun _ _ _ _ _ => rfl) ?_
                  refine RXl.exact (.pointer (some ⟨q, k, none⟩)) rfl rfl rfl rfl rfl (fun j τ w' hj hJ => by simp [rho, upd, Spec.val, execOp, go_sem, hkI]) ?_
                  refine RXl.exact (pp pk) rfl rfl rfl rfl rfl (fun j τ w' hj hJ => by have c := HQ1.out _ _ _ _ hJ; simp [rho, upd, Spec.val, execOp, go_sem, c]) ?_
                  refine RXl.exact (str jb) rfl rfl rfl rfl rfl (fun _ _ _ _ _ => rfl) ?_
                  refine RXl.exact (.int .i64 ↑m0) rfl rfl rfl rfl rfl (fun _ _ _ _ _ => rfl) ?_
                  refine RXl.exact (str (jb.drop m0)) rfl rfl rfl rfl rfl (fun j τ w' hj hJ => by have c := HXJ.out w'; simp [rho, upd, Spec.val, execOp, c, Result.andThen]) ?_
                  refine RXl.callj 0 (.int .i64 e2) _ [pp pk, str (jb.drop m0)] [.tmp 130, .tmp 133] _ rfl rfl rfl rfl rfl rfl (fun _ => rfl) (fun w' hJ => HA.out w' hJ) ?_
                  refine RXl.exact (.int .i64 e2) rfl rfl rfl rfl rfl (fun _ _ _ _ _ => rfl) ?_
                  refine RXl.nilx _ (Agr.upd _ _ (Agr.upd _ _ (Agr.upd _ _ (Agr.upd _ _ (Agr.upd _ _ (Agr.upd _ _ (Agr.upd _ _ (Agr.upd _ _ (Agr.base _))))))))) fun w6 hJ => ?_
                  obtain ⟨_, hJ⟩ := hJ
                  simp only [Act.put, List.setIfInBounds_toArray, List.set_cons_succ, List.set_cons_zero]
                  have S6 := Lib.hid (show St B w0 w6 (Hr fb g p0 p1 p2 0 (Ts'.set k T2) F4 (X5 * (pts q (.cells #[pp p0, pp p1, pp p2] 62) * R))) from hJ)
                  clear hJ S5 HA
                  by_cases he : e2 = 0
                  · subst he
                    have hwc := HWC2.out
                    rw [if_pos rfl] at hwc
                    have c1 := HQ1.out _ _ _ _ S6.out
                    have hs := HSYN.out _ _ _ _ HR2.out S6.out
                    have hr3 := HR2.out.sync k (by omega)
                    have hg3 := fun i => (set_gone (i := k) (j := i) (sync_gone (some F4) ((Ts'.set k T2).getD k Tp.new))).trans (HG2.out i)
                    simp only [HKK.out, List.set_set] at hs hr3 hg3
                    generalize hW : tSync (some F4) T2 = W at *
                    obtain ⟨e3, T3⟩ := W
                    simp only at hs hr3 hg3 hwc
                    have HSY := Lib.hid hs
                    have HR3 := Lib.hid (And.intro hr3 hg3)
                    have hol := HOL.out _ _ _ _ rfl hwc
                    clear hs hr3 hg3 hwc hW HWC2 HR2 HG2 HOL S6
                    by_cases he : e3 = 0
                    · subst he
                      rw [if_pos rfl] at hol
                      have HN := Lib.hid (HOP.out.trans hol)
                      clear hol
                      go_wp2_with fail
                      refine HSY.out.mono ?_
                      rintro e w7 ⟨rfl, s7⟩
                      have S7 := Lib.hid s7
                      clear s7 HSY c1
                      go_wp2_with fail
                      go_roundw
                      case rel => exact ⟨k + 1, F4, _, X5, by omega, by go_num, HR3.out.1, HR3.out.2, HS5.out, HN.out, S7.out⟩
                      case measure => (simp [intOf] <;> omega)
                    · rw [if_neg he] at hol
                      have hop := HOP.out.trans hol
                      have hne : (e3 != 0) = true := by simpa using he
                      have hE3 := fun e w' => E.out e w'
                      simp only [hop, if_neg he, Option.getD_some] at hE3
                      have E3 := Lib.hid hE3
                      clear hE3 hop hol he E
                      go_wp2_with fail
                      refine HSY.out.mono ?_
                      rintro e w7 ⟨rfl, s7⟩
                      have S7 := Lib.hid s7
                      clear s7 HSY c1
                      go_wp2_with fail
                      go_ret3
                      rw [E3.out]
                      exact ⟨rfl, hr_no (Z := X5 * pts q (.cells #[pp p0, pp p1, pp p2] 62)) (S7.out.eq (by rw [sep_assoc]))⟩
                  · have hwc := HWC2.out
                    rw [if_neg he] at hwc
                    have hol := HOL.out _ _ _ _ rfl hwc
                    rw [if_neg he] at hol
                    have hop := HOP.out.trans hol
                    have hne : (e2 != 0) = true := by simpa using he
                    have hE3 := fun e w' => E.out e w'
                    simp only [hop, if_neg he, Option.getD_some] at hE3
                    have E3 := Lib.hid hE3
                    clear hE3 hop hol he E hwc
                    go_wp2_with fail
                    go_ret3
                    rw [E3.out]
                    exact ⟨rfl, hr_no (Z := X5 * pts q (.cells #[pp p0, pp p1, pp p2] 62)) (S6.out.eq (by rw [sep_assoc]))⟩
                · have hwc := HWC.out
                  rw [if_neg he] at hwc
                  have hol := HOL.out _ _ _ _ rfl hwc
                  rw [if_neg he] at hol
                  have hop := HOP.out.trans hol
                  have hne : (e1 != 0) = true := by simpa using he
                  have hE3 := fun e w' => E.out e w'
                  simp only [hop, if_neg he, Option.getD_some] at hE3
                  have E3 := Lib.hid hE3
                  clear hE3 hop hol he E hwc
                  go_wp2_with fail
                  go_ret3
                  rw [E3.out]
                  exact ⟨rfl, hr_no (Z := X5 * pts q (.cells #[pp p0, pp p1, pp p2] 62)) (S5.out.eq (by rw [sep_assoc]))⟩
          · obtain rfl : k = 3 := by omega
            rw [lvf_three] at hop
            have hop : opK (some F) Ts (lvi Ts) bs = (0, some F', Ts') := hop
            have hE3 := fun e w' => E.out e w'
            simp only [hop, if_true, Option.getD_some] at hE3
            have E3 := Lib.hid hE3
            obtain ⟨c1, f1⟩ := hr_n s1
            have S1 := Lib.hid (hr_set s1 bs.length)
            have HSR := Lib.hid hsr
            clear s1 hE3 hop hgn hok' hsr hlt E
            go_wp2_with fail
            go_ret3
            rw [E3.out]
            exact ⟨X * pts q (.cells #[pp p0, pp p1, pp p2] 62), g, _, rfl, HSR.out.right _, S1.out.eq (by rw [sep_assoc])⟩
end
end Go.Proofs.Ytkkkncchinejmaa.TrV
