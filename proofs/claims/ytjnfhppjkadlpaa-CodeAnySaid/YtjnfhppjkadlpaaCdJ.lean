/- Codes: Decode where enough is there, walked. No condition. -/
import Derived.Test.YtjnfhppjkadlpaaCdI
set_option linter.unusedSimpArgs false
set_option linter.unusedVariables false
namespace Go.Proofs.Ytjnfhppjkadlpaa.Cd
open Go Go.RowKit Go.Proofs.Ytjnfhppjkadlpaa Go.Proofs.Ytjnfhppjkadlpaa.Sp Go.Proofs.Ytjnfhppjkadlpaa.Reg Go.Proofs.Ytjnfhppjkadlpaa.Rd Go.Proofs.Ytjnfhppjkadlpaa.Obr Go.Proofs.Ytjnfhppjkadlpaa.Gf Go.Proofs.Ytjnfhppjkadlpaa.Mt
section
variable {B : Nat} {w0 : World} {R : HP}
set_option maxRecDepth 100000 in
set_option maxHeartbeats 16000000 in
theorem decode_ok (p fb : Nat) (xs ys : List UInt8) (hg : Cd.Good xs ys) (v : Value) (l : Shs) (hl : l.length = xs.length + ys.length) (hb : lgb l = true) (n : Nat) (hn : lgn l = (n : Int)) (hn2 : n ≤ 64) (hln : ∀ s b, sat l s = some b → b.length = n)
    (ht : xs.length ≤ (thr l l.length).length) (w : World) (hr : SRd B w0 R v l) (s : St B w0 w (fx fb * (cd p fb xs ys * R))) :
    Calls Try.prog 28 #[pp p, v] w fun e w' => ∃ A Bk v' vs, gj xs.length (Fm xs ys (fr0 xs.length l)) xs.length = some (A, Bk) ∧ e = .returned (.tuple #[v', .int .i64 0]) ∧ vs.length = xs.length + ys.length ∧ NN vs ∧
      St B w0 w' (ob v' vs (dec xs ys Bk l n) * (fx fb * (cd p fb xs ys * R))) := by
  obtain ⟨Aq, cq, hvq, rfl, hq2, hq3, hq4, hq5, hq6, hq7⟩ := id hr
  have HR := Lib.hid hr
  have HA := Lib.hid hq6
  have HU := Lib.hid hq7
  have hx2 := hg.k2
  have hx1 := hg.k1
  have hy1 := hg.r1
  have hy2 := hg.r2
  have HGd := Lib.hid hg
  have HL := Lib.hid hl
  have HLN := Lib.hid hln
  have HTLE := Lib.hid (thr_le l l.length)
  have HT := Lib.hid ht
  have HB := Lib.hid hb
  have HNN := Lib.hid hn
  have S := Lib.hid s
  clear s
  clear hr hq6 hq7 hln hg hl ht hb hn hq2 hq3
  go_enter Try.func28, Try.ntmps28
  go_wp2_with fail
  refine (size_calls p fb xs ys w (S.out.eq (sep_left_comm _ _ _))).mono ?_
  rintro e w1 ⟨rfl, s1⟩
  clear S
  have S1 := Lib.hid s1
  clear s1
  go_wp2_with fail
  refine (long_calls _ l (by have := HL.out; omega) w1 (HR.out.of (X := cd p fb xs ys * fx fb) (sep_assoc _ _ _).symm) S1.out).mono ?_
  rintro e w2 ⟨rfl, s2⟩
  clear S1
  have S2 := Lib.hid s2
  clear s2
  rw [HB.out, HNN.out]
  have h1I : (l.length : Int) = (xs.length : Int) + (ys.length : Int) := by have := HL.out; omega
  go_wp2_with fail
  refine (there_calls _ l (by have := HL.out; omega) w2 (HR.out.of (X := cd p fb xs ys * fx fb) (sep_assoc _ _ _).symm) S2.out).mono ?_
  rintro e w3 ⟨v3, rfl, s3⟩
  obtain ⟨a3, c3, rfl, hc3, hc3m, -⟩ := s3.rowSlice
  clear S2
  have HRD := Lib.hid (show ∀ w H, St B w0 w (H * (row 3 1 (.slice a3 (thr l l.length).length c3) (thr l l.length).length (nis (thr l l.length)) * R)) → Rd w a3 (nis (fr0 xs.length l)) from fun w H s => by
    have h := ((s.eq (Q := row 3 1 (.slice a3 (thr l l.length).length c3) (thr l l.length).length (nis (thr l l.length)) * (H * R)) (by ac_rfl)).rowRd).sub 0 xs.length a3 (fun _ => by cases a3 <;> simp [Addr.add])
    rw [List.drop_zero, ← List.map_take] at h
    exact h)
  have hx3 : xs.length ≤ c3 := by have := HT.out; omega
  have hsl : ∀ w, (Instr.sliceAt 69 (.slice a3 (thr l l.length).length c3) none (some (.int .i64 (xs.length : Int))) none).run Try.prog w = .ok (.slice a3 xs.length c3) w := fun w =>
    (run_slice_sl tI w a3 _ c3 none (some (.int .i64 (xs.length : Int))) 0 xs.length (.inl ⟨rfl, rfl⟩) (.inr ⟨_, rfl⟩) (by omega) (by omega)).trans (by cases a3 <;> simp [subA, Addr.add])
  have S3 := Lib.hid (s3.eq (Q := fx fb * (cd p fb xs ys * (row 3 1 (.slice a3 (thr l l.length).length c3) (thr l l.length).length (nis (thr l l.length)) * R))) (by ac_rfl))
  have htI : ¬ ((thr l l.length).length : Int) < (xs.length : Int) := by have := HT.out; omega
  have HRI := Lib.hid (show SRd B w0 (row 3 1 (.slice a3 (thr l l.length).length c3) (thr l l.length).length (nis (thr l l.length)) * R) (.slice Aq l.length cq) l from HR.out.of rfl)
  have HR2 := Lib.hid (show ∀ w H, St B w0 w (H * (row 3 1 (.slice a3 (thr l l.length).length c3) (thr l l.length).length (nis (thr l l.length)) * R)) → St B w0 w (H * R) from fun w H s => (s.eq (sep_left_comm _ _ _)).right)
  generalize (row 3 1 (.slice a3 (thr l l.length).length c3) (thr l l.length).length (nis (thr l l.length)) * R : HP) = R2 at *
  generalize (thr l l.length).length = z3 at hsl hc3 htI ⊢
  clear s3
  go_wp2_with fail
  refine (data_calls p fb xs ys HGd.out (.slice Aq l.length cq) l a3 c3 (fr0 xs.length l) n hn2 HL.out (fr0_len HT.out) (fr0_nodup _ _) (fun s hs => fr0_mem hs) HLN.out w3 HRI.out HRD.out S3.out).mono ?_
  rintro e w4 ⟨A, Bk, g, vd, hgj, rfl, hvd, hnn, s4⟩
  have HGJ := Lib.hid hgj
  have HVD := Lib.hid (And.intro hvd hnn)
  have HDL := Lib.hid (dt_len xs.length Bk l (fr0 xs.length l) n)
  have HDA := Lib.hid (dt_all (k := xs.length) (Bk := Bk) (fr := fr0 xs.length l) HLN.out)
  have HDEC := Lib.hid (show dec xs ys Bk l n = dt xs.length Bk l (fr0 xs.length l) n ++ px xs ys l n (dt xs.length Bk l (fr0 xs.length l) n) ys.length from rfl)
  obtain ⟨A5, c5, hv5, e5, q2, q3, q4, q5, hA2, hU2⟩ := HRI.out
  cases e5
  have HA2 := Lib.hid hA2
  have HU2 := Lib.hid hU2
  clear S3 hgj hvd hnn hA2 hU2 q2 q3 q4 q5 hsl hc3 htI
  generalize dt xs.length Bk l (fr0 xs.length l) n = D at *
  have S4 := Lib.hid s4
  clear s4
  go_wp2_with fail
  go_loopw [12, 50] (fun X ji wr => ∃ (j : Nat) (vx : List Value), j ≤ ys.length ∧ ji = .int .i64 (j : Int) ∧ vx.length = j ∧ NN vx ∧ St B w0 wr (outP g xs.length X j (vd ++ vx) * (row 32 1 (.slice (some ⟨g, 0, none⟩) xs.length xs.length) xs.length vd * (rows 5 vd D * (rows 5 vx (px xs ys l n D j) * (fx fb * (cd p fb xs ys * R2))))))) (fun _ ji _ => ys.length - (intOf ji).toNat)
  case atStart =>
    refine ⟨0, [], Nat.zero_le _, rfl, rfl, NN.nil, ?_⟩
    unfold outP
    rw [if_pos rfl]
    refine St.pu.2 ⟨rfl, S4.out.eq ?_⟩
    unfold ob
    rw [HDL.out]
    show _ = row 32 1 _ _ vd * (rows 5 vd D * (emp * _))
    rw [emp_sep]
    ac_rfl
  case round =>
    obtain ⟨j, vx, hjr, rfl, hvx, hnx, s5⟩ := hrel
    clear S4
    obtain ⟨a7, c7, rfl⟩ := outP_slice s5
    have HVX := Lib.hid (And.intro hvx hnx)
    clear hvx hnx
    by_cases hlt : j < ys.length
    · have hltI : (j : Int) < (ys.length : Int) := by omega
      have hkl : xs.length + j < l.length := by have := HL.out; omega
      obtain ⟨u, hu1, hu2⟩ := HU2.out (xs.length + j) hkl
      obtain ⟨bq, oq, rfl, hcq⟩ := (HA2.out wr (outP g xs.length (.slice a7 (xs.length + j) c7) j (vd ++ vx) * (row 32 1 (.slice (some ⟨g, 0, none⟩) xs.length xs.length) xs.length vd * (rows 5 vd D * (rows 5 vx (px xs ys l n D j) * (fx fb * cd p fb xs ys))))) (s5.eq (by ac_rfl))).at (by rintro rfl; simp at hu1)
      have cq0 := hcq (xs.length + j) u hu1
      have HO := Lib.hid (show sat l (xs.length + j) = l[xs.length + j] from sat_at hkl)
      have HPX := Lib.hid (px_succ xs ys l n D j)
      have hklI : (xs.length : Int) + (j : Int) < (l.length : Int) := by have := HL.out; omega
      generalize l[xs.length + j] = o at *
      clear hu1 hcq hkl
      cases o with
      | none =>
        cases (show u = .slice none 0 0 from hu2)
        clear hu2
        have hn0 := fun w => Lib.run_eql_slice_nil (P := Try.prog) w 32 5 none 0 0 0 0 Try.underlying32
        have HBR := Lib.hid (show BRd B w0 (ob (.slice (some ⟨g, 0, none⟩) xs.length xs.length) vd D) (.slice (some ⟨g, 0, none⟩) xs.length xs.length) D from
          ob_brd (by rw [HDL.out]; exact HVD.out.1) (s5.eq (Q := ob (.slice (some ⟨g, 0, none⟩) xs.length xs.length) vd D * (outP g xs.length (.slice a7 (xs.length + j) c7) j (vd ++ vx) * (rows 5 vx (px xs ys l n D j) * (fx fb * (cd p fb xs ys * R2))))) (by unfold ob; rw [HDL.out]; ac_rfl)))
        have HP1 := Lib.hid (show px1 xs ys l n D j = par xs ys j n D from by unfold px1; rw [HO.out])
        have HPN := Lib.hid (par_len xs ys j n D)
        have HPL := Lib.hid (px_len xs ys l n D j)
        have S5 := Lib.hid s5
        clear s5
        go_wp2_with fail
        refine (parity_calls p fb xs ys j n (.slice (some ⟨g, 0, none⟩) xs.length xs.length) D hlt HDL.out (by omega) (by omega) HDA.out wr (R := outP g xs.length (.slice a7 (xs.length + j) c7) j (vd ++ vx) * (row 32 1 (.slice (some ⟨g, 0, none⟩) xs.length xs.length) xs.length vd * (rows 5 vd D * (rows 5 vx (px xs ys l n D j) * R2)))) (HBR.out.of (X := outP g xs.length (.slice a7 (xs.length + j) c7) j (vd ++ vx) * (rows 5 vx (px xs ys l n D j) * R2)) (by unfold ob; rw [HDL.out]; ac_rfl)) (S5.out.eq (by ac_rfl))).mono ?_
        rintro e w6 ⟨g6, rfl, s6⟩
        clear S5
        rw [par_len] at s6 ⊢
        rw [HP1.out] at HPX
        generalize par xs ys j n D = P at *
        generalize px xs ys l n D j = E at *
        have S6 := Lib.hid ((s6.alloc (.cells #[.slice (some ⟨g6, 0, none⟩) n n] 32)).eq (Q := outP g xs.length (.slice a7 (xs.length + j) c7) j (vd ++ vx) * (row 32 1 (.slice (some ⟨g, 0, none⟩) xs.length xs.length) xs.length vd * (pts w6.heap.size (.cells #[.slice (some ⟨g6, 0, none⟩) n n] 32) * (row 5 1 (.slice (some ⟨g6, 0, none⟩) n n) n (bvs P) * (rows 5 vd D * (rows 5 vx E * (fx fb * (cd p fb xs ys * R2)))))))) (by ac_rfl))
        have hrd := Lib.hid (Rd.new w6 #[.slice (some ⟨g6, 0, none⟩) n n] 32)
        clear s6
        go_wp2_with (at_builtin; go_must (refine wpl_out rfl _ _ rfl (by omega) (by omega) HVD.out.1 HVX.out.1 S6.out (some ⟨w6.heap.size, 0, none⟩) rfl rfl hrd.out (by simp) rfl ?_); intro v8 w8 s8; have S8 := Lib.hid (s8.eq (Q := pts w6.heap.size (.cells #[.slice (some ⟨g6, 0, none⟩) n n] 32) * (outP g xs.length v8 (j + 1) (vd ++ (vx ++ [.slice (some ⟨g6, 0, none⟩) n n])) * (row 32 1 (.slice (some ⟨g, 0, none⟩) xs.length xs.length) xs.length vd * (row 5 1 (.slice (some ⟨g6, 0, none⟩) n n) n (bvs P) * (rows 5 vd D * (rows 5 vx E * (fx fb * (cd p fb xs ys * R2)))))))) (by ac_rfl)).right; clear s8 S6 hrd)
        go_roundw
        case rel =>
          refine ⟨j + 1, vx ++ [.slice (some ⟨g6, 0, none⟩) n n], by omega, by go_num, by simp [HVX.out.1], HVX.out.2.snoc ⟨_, _, _, rfl⟩, ?_⟩
          rw [HPX.out, rows_snoc _ _ _ _ _ (by rw [HPL.out]; exact HVX.out.1), HPN.out]
          exact S8.out.eq (by ac_rfl)
        case measure => simp [intOf]; omega
      | some b =>
        obtain ⟨⟨gu, ou, nu, cu_, rfl⟩, hub⟩ := hu2
        have hn0 := fun w => Lib.run_eql_slice_nil (P := Try.prog) w 32 5 (some ⟨gu, ou, none⟩) nu cu_ 0 0 Try.underlying32
        have HUB := Lib.hid hub
        clear hub
        have hbn := HLN.out _ b HO.out
        obtain rfl : n = nu := by
          have := (HUB.out wr (outP g xs.length (.slice a7 (xs.length + j) c7) j (vd ++ vx) * (row 32 1 (.slice (some ⟨g, 0, none⟩) xs.length xs.length) xs.length vd * (rows 5 vd D * (rows 5 vx (px xs ys l n D j) * (fx fb * cd p fb xs ys))))) (s5.eq (by ac_rfl))).rd.1
          omega
        have HP1 := Lib.hid (show px1 xs ys l n D j = b from by unfold px1; rw [HO.out])
        have HPN := Lib.hid hbn
        have HPL := Lib.hid (px_len xs ys l n D j)
        rw [HP1.out] at HPX
        clear hbn
        generalize px xs ys l n D j = E at *
        have S5 := Lib.hid s5
        clear s5
        go_wp2_with (first
          | (at_make; go_must (refine wpl_make1 rfl _ _ rfl tB rfl S5.out .i64 .i64 0 n rfl rfl (by omega) (by unfold maxLen; omega) (by omega) ?_); intro g6 w6 s6; have S6 := Lib.hid s6; clear s6 S5)
          | (((have q := S6); clear q); at_builtin; go_must (refine wpl_append rfl _ _ rfl tB S6.out (some ⟨gu, ou, none⟩) n cu_ (bvs b) rfl rfl (HUB.out _ (row 5 1 (.slice (some ⟨g6, 0, none⟩) 0 n) 0 (List.replicate 0 (.int .u8 0)) * (outP g xs.length (.slice a7 (xs.length + j) c7) j (vd ++ vx) * (row 32 1 (.slice (some ⟨g, 0, none⟩) xs.length xs.length) xs.length vd * (rows 5 vd D * (rows 5 vx E * (fx fb * cd p fb xs ys)))))) (S6.out.eq (by ac_rfl))).rd.2.2.2.2 (fun e => by cases e) (by simp [HPN.out]) (bvs_one _) (by unfold maxLen; omega) (by omega) ?_); intro v7 w7 s7 hv7; rw [Nat.zero_add, List.replicate_zero, List.nil_append] at s7; obtain ⟨g7, c7', rfl, -⟩ := s7.rowSome (fun e => by have := (hv7.1 e).1; cases this); have S7 := Lib.hid ((s7.alloc (.cells #[.slice (some ⟨g7, 0, none⟩) n c7'] 32)).eq (Q := outP g xs.length (.slice a7 (xs.length + j) c7) j (vd ++ vx) * (row 32 1 (.slice (some ⟨g, 0, none⟩) xs.length xs.length) xs.length vd * (pts w7.heap.size (.cells #[.slice (some ⟨g7, 0, none⟩) n c7'] 32) * (row 5 1 (.slice (some ⟨g7, 0, none⟩) n c7') n (bvs b) * (rows 5 vd D * (rows 5 vx E * (fx fb * (cd p fb xs ys * R2)))))))) (by ac_rfl)); have hrd := Lib.hid (Rd.new w7 #[.slice (some ⟨g7, 0, none⟩) n c7'] 32); clear s7 hv7 S6)
          | (((have q := S7); clear q); at_builtin; go_must (refine wpl_out rfl _ _ rfl (by omega) (by omega) HVD.out.1 HVX.out.1 S7.out (some ⟨w7.heap.size, 0, none⟩) rfl rfl hrd.out (by simp) rfl ?_); intro v8 w8 s8; have S8 := Lib.hid (s8.eq (Q := pts w7.heap.size (.cells #[.slice (some ⟨g7, 0, none⟩) n c7'] 32) * (outP g xs.length v8 (j + 1) (vd ++ (vx ++ [.slice (some ⟨g7, 0, none⟩) n c7'])) * (row 32 1 (.slice (some ⟨g, 0, none⟩) xs.length xs.length) xs.length vd * (row 5 1 (.slice (some ⟨g7, 0, none⟩) n c7') n (bvs b) * (rows 5 vd D * (rows 5 vx E * (fx fb * (cd p fb xs ys * R2)))))))) (by ac_rfl)).right; clear s8 S7 hrd))
        go_roundw
        case rel =>
          refine ⟨j + 1, vx ++ [.slice (some ⟨g7, 0, none⟩) n c7'], by omega, by go_num, by simp [HVX.out.1], HVX.out.2.snoc ⟨_, _, _, rfl⟩, ?_⟩
          rw [HPX.out, rows_snoc _ _ _ _ _ (by rw [HPL.out]; exact HVX.out.1), HPN.out]
          exact S8.out.eq (by ac_rfl)
        case measure => simp [intOf]; omega
    · obtain rfl : j = ys.length := by omega
      have S5 := Lib.hid s5
      clear s5
      go_wp2_with fail
      go_ret2
      refine ⟨A, Bk, _, vd ++ vx, HGJ.out, rfl, by rw [List.length_append, HVD.out.1, HVX.out.1], HVD.out.2.app HVX.out.2, ?_⟩
      rw [HDEC.out]
      have s6 := S5.out
      unfold outP at s6
      rw [if_neg (by omega)] at s6
      have s7 := HR2.out _ _ (s6.eq (Q := (row 32 1 (.slice a7 (xs.length + ys.length) c7) (xs.length + ys.length) (vd ++ vx) * (row 32 1 (.slice (some ⟨g, 0, none⟩) xs.length xs.length) xs.length vd * (rows 5 vd D * (rows 5 vx (px xs ys l n D ys.length) * (fx fb * cd p fb xs ys))))) * R2) (by ac_rfl))
      refine (s7.eq (Q := row 32 1 (.slice (some ⟨g, 0, none⟩) xs.length xs.length) xs.length vd * (ob (.slice a7 (xs.length + ys.length) c7) (vd ++ vx) (D ++ px xs ys l n D ys.length) * (fx fb * (cd p fb xs ys * R)))) ?_).right
      unfold ob
      rw [List.length_append, HDL.out, px_len, rows_app _ _ _ _ _ (by rw [HDL.out]; exact HVD.out.1)]
      ac_rfl
end
end Go.Proofs.Ytjnfhppjkadlpaa.Cd
