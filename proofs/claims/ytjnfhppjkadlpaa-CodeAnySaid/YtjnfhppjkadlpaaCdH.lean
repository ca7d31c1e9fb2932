/- Codes: data, walked: all data shards, as the first ones that are there say. No condition. -/
import Derived.Test.YtjnfhppjkadlpaaCdG
import Derived.Test.YtjnfhppjkadlpaaCdE
import Derived.Test.YtjnfhppjkadlpaaMgM
import Derived.Test.YtjnfhppjkadlpaaMgB
set_option linter.unusedSimpArgs false
set_option linter.unusedVariables false
namespace Go.Proofs.Ytjnfhppjkadlpaa.Cd
open Go Go.RowKit Go.Proofs.Ytjnfhppjkadlpaa Go.Proofs.Ytjnfhppjkadlpaa.Sp Go.Proofs.Ytjnfhppjkadlpaa.Reg Go.Proofs.Ytjnfhppjkadlpaa.Rd Go.Proofs.Ytjnfhppjkadlpaa.Obr Go.Proofs.Ytjnfhppjkadlpaa.Gf Go.Proofs.Ytjnfhppjkadlpaa.Mt
/-- What the data are made of. -/
theorem dt_succ (k : Nat) (Bk : Mx) (l : Shs) (fr : List Nat) (n i : Nat) (h : i < k) : (dt k Bk l fr n).take (i + 1) = (dt k Bk l fr n).take i ++ [dt1 k Bk l fr n i] := by
  unfold dt
  rw [List.take_add_one, List.getElem?_map, List.getElem?_range h]
  rfl
theorem mrow_Fm (xs ys : List UInt8) (fr : List Nat) (t : Nat) (h : t < fr.length) : mrow xs.length (Fm xs ys fr) t = (List.range xs.length).map (rwf xs ys fr[t]) := by
  unfold mrow Fm
  simp [List.getD, List.getElem?_eq_getElem h]
section
variable {B : Nat} {w0 : World} {R : HP}
set_option maxRecDepth 100000 in
set_option maxHeartbeats 16000000 in
theorem data_calls (p fb : Nat) (xs ys : List UInt8) (hg : Cd.Good xs ys) (v : Value) (l : Shs) (af : Option Addr) (cf_ : Nat) (fr : List Nat) (n : Nat) (hn : n ≤ 64) (hl : l.length = xs.length + ys.length) (hfl : fr.length = xs.length) (hfn : fr.Nodup)
    (hfs : ∀ s ∈ fr, s < l.length ∧ (sat l s).isSome = true) (hln : ∀ s b, sat l s = some b → b.length = n) (w : World)
    (hr : SRd B w0 R v l) (hf : ∀ w H, St B w0 w (H * R) → Rd w af (nis fr)) (s : St B w0 w (fx fb * (cd p fb xs ys * R))) :
    Calls Try.prog 56 #[pp p, v, .slice af xs.length cf_, .int .i64 (n : Int)] w fun e w' => ∃ A Bk g vs, gj xs.length (Fm xs ys fr) xs.length = some (A, Bk) ∧ e = .returned (.slice (some ⟨g, 0, none⟩) xs.length xs.length) ∧ vs.length = xs.length ∧ NN vs ∧
      St B w0 w' (ob (.slice (some ⟨g, 0, none⟩) xs.length xs.length) vs (dt xs.length Bk l fr n) * (fx fb * (cd p fb xs ys * R))) := by
  obtain ⟨As, Bk, hgj⟩ := Fm_gj hg hfn hfl (fun s hs => by have := (hfs s hs).1; omega)
  have hk1 := hg.k1
  have hk2 := hg.k2
  have hr2 := hg.r2
  have hr1 := hg.r1
  obtain ⟨A, c, hv, rfl, hvl, hlc, hcm, hnil, hA, hu⟩ := hr
  obtain ⟨a1, c1, a2, c2, k0, k1, k2⟩ := cd_cells (s.eq (sep_left_comm _ _ _))
  obtain ⟨k, hk⟩ : ∃ k, xs.length = k := ⟨_, rfl⟩
  rw [hk] at k1 hk1 hk2
  have HK := Lib.hid hk
  have HG := Lib.hid hgj
  have HA := Lib.hid hA
  have HU := Lib.hid hu
  have HV := Lib.hid hvl
  have HFL := Lib.hid hfl
  have HFS := Lib.hid hfs
  have HLN := Lib.hid hln
  have HF := Lib.hid hf
  have HL := Lib.hid hl
  have hll : l.length = k + ys.length := by omega
  clear hfs hln hf hl hgj hA hu hvl hfn hg hfl
  have S := Lib.hid s
  clear s
  rw [hk]
  clear hk k0 k2
  generalize l.length = ll at hlc hll ⊢
  have HLL := Lib.hid hll
  clear hll
  go_enter Try.func56, Try.ntmps56
  go_wp2_with fail
  clear k1
  go_loopw [10, 31] (fun x i wr => ∃ t : Nat, t ≤ k ∧ i = .int .i64 (t : Int) ∧ St B w0 wr (row 5 1 x (t * k) (bvs (cl t k (Fm xs ys fr))) * (fx fb * (cd p fb xs ys * R)))) (fun _ i _ => k - (intOf i).toNat)
  case atStart => exact ⟨0, Nat.zero_le _, rfl, by rw [Nat.zero_mul, cl_one]; exact S.out.rowNil _ _⟩
  case round =>
    obtain ⟨t, htk, rfl, s1⟩ := hrel
    clear S
    obtain ⟨a5, c5, rfl, -⟩ := s1.rowSlice
    have htt : t * k ≤ 14 * 14 := Nat.mul_le_mul (by omega) hk2
    by_cases hlt : t < k
    · have hltI : (t : Int) < (k : Int) := by omega
      have hft : t < fr.length := by rw [HFL.out, HK.out]; exact hlt
      obtain ⟨bf, of, rfl, hcf⟩ := (HF.out wr (row 5 1 (.slice a5 (t * k) c5) (t * k) (bvs (cl t k (Fm xs ys fr))) * (fx fb * cd p fb xs ys)) (s1.eq (by ac_rfl))).at (by intro e; have := congrArg List.length e; rw [List.length_map, List.length_nil] at this; omega)
      have cft := hcf t (.int .i64 (fr[t] : Int)) (by rw [nis, List.getElem?_map, List.getElem?_eq_getElem hft]; rfl)
      have hfb := (HFS.out fr[t] (List.getElem_mem hft)).1
      have HM := Lib.hid (mrow_Fm xs ys fr t hft)
      generalize fr[t] = m at *
      clear hcf
      have S1 := Lib.hid s1
      clear s1
      go_wp2_with fail
      refine (row_calls p fb xs ys m (by rw [← HL.out]; exact hfb) (by rw [HK.out]; exact hk2) hr2 wr (S1.out.eq (Q := fx fb * (cd p fb xs ys * (row 5 1 (.slice a5 (t * k) c5) (t * k) (bvs (cl t k (Fm xs ys fr))) * R))) (by ac_rfl))).mono ?_
      rintro e w2 ⟨g2, rfl, s2⟩
      rw [HK.out] at s2 ⊢
      have HX := Lib.hid (show bvs (cl t k (Fm xs ys fr)) ++ bvs ((List.range k).map (rwf xs ys m)) = bvs (cl (t + 1) k (Fm xs ys fr)) from by
        have h := HM.out
        rw [HK.out] at h
        rw [cl_succ, h]; simp [bvs])
      have HT := Lib.hid (Nat.succ_mul t k)
      have S2 := Lib.hid (s2.eq (Q := row 5 1 (.slice a5 (t * k) c5) (t * k) (bvs (cl t k (Fm xs ys fr))) * (br g2 k (rwf xs ys m) * (fx fb * (cd p fb xs ys * R)))) (by ac_rfl))
      have hrd := Lib.hid (br_bs s2).rd.2.2.2.2
      clear S1 s2 HM
      go_wp2_with (at_builtin; go_must (refine wpl_append rfl _ _ rfl tB S2.out (some ⟨g2, 0, none⟩) k k (bvs ((List.range k).map (rwf xs ys m))) rfl rfl hrd.out (fun e => by cases e) (by simp) (bvs_one _) (by unfold maxLen; omega) (by omega) ?_); intro v5 w5 s5 _; rw [HX.out, ← HT.out] at s5; have S6 := Lib.hid ((s5.eq (sep_left_comm _ _ _)).right); clear s5 S2 hrd HX)
      go_roundw
      case rel => exact ⟨t + 1, by omega, by go_num, S6.out⟩
      case measure => simp [intOf]; omega
    · obtain rfl : t = k := by omega
      have cfb := cd_fb (s1.eq (Q := cd p fb xs ys * (row 5 1 (.slice a5 (t * t) c5) (t * t) (bvs (cl t t (Fm xs ys fr))) * (fx fb * R))) (by ac_rfl))
      have S1 := Lib.hid s1
      clear s1
      go_wp2_with fail
      refine (Mt.new_good fb t t a5 (t * t) c5 (cl t t (Fm xs ys fr)) ⟨hk1, by omega⟩ ⟨hk1, by omega⟩ (cl_len _ _ _) wr S1.out.bs S1.out.right).mono ?_
      rintro e w2 ⟨b2, rfl, s2⟩
      obtain ⟨g2, c2_, s2⟩ := mt_open (mt_congr s2 (cl_ofl (cl_len _ _ _)))
      have S2 := Lib.hid (s2.eq (sep_left_comm _ _ _))
      have HG2 := HG.out
      rw [HK.out] at HG2
      clear S1 s2
      go_wp2_with fail
      refine (inv_calls b2 g2 c2_ fb t (Fm xs ys fr) ⟨hk1, by omega⟩ w2 S2.out).mono ?_
      intro e w3 h
      unfold InvP at h
      rw [HG2] at h
      obtain ⟨b3, rfl, s3⟩ := h
      clear S2 HG2
      obtain ⟨g3, c3_, s3⟩ := mt_open s3
      have S3 := Lib.hid (s3.eq (Q := mo b2 g2 c2_ fb t t (Fm xs ys fr) * (fx fb * (mo b3 g3 c3_ fb t t Bk * (cd p fb xs ys * R)))) (by ac_rfl)).right
      clear s3
      go_wp2_with (at_make; go_must (refine wpl_make1 rfl _ _ rfl tBB rfl S3.out .i64 .i64 t t rfl rfl (Nat.le_refl _) (by unfold maxLen; omega) (by omega) ?_); intro g4 w4 s4; have S4 := Lib.hid s4; clear s4 S3)
      go_loopw [61] (fun ii wr2 => ∃ (i : Nat) (vs : List Value), i ≤ t ∧ ii = .int .i64 (i : Int) ∧ vs.length = i ∧ NN vs ∧ St B w0 wr2 (row 32 1 (.slice (some ⟨g4, 0, none⟩) t t) t (vs ++ List.replicate (t - i) (.slice none 0 0)) * (rows 5 vs ((dt t Bk l fr n).take i) * (fx fb * (mo b3 g3 c3_ fb t t Bk * (cd p fb xs ys * R)))))) (fun ii _ => t - (intOf ii).toNat)
      case atStart => exact ⟨0, [], Nat.zero_le _, rfl, rfl, NN.nil, S4.out.eq (by show _ = row 32 1 _ t (List.replicate t _) * (emp * _); rw [emp_sep])⟩
      case round =>
        obtain ⟨i, vs, hit, rfl, hvs, hnn, s5⟩ := hrel
        clear S4
        have HVS := Lib.hid (And.intro hvs hnn)
        clear hvs hnn
        by_cases hlt : i < t
        · have hltI : (i : Int) < (t : Int) := by omega
          have hil : i < l.length := by have := HL.out; have := HK.out; omega
          have hillI : (i : Int) < (ll : Int) := by have := HLL.out; omega
          obtain ⟨u, hu1, hu2⟩ := HU.out i hil
          have HCC := Lib.hid (show ∀ w H, St B w0 w (H * R) → ∃ b, ∃ off, A = some ⟨b, off, none⟩ ∧ w.cell? ⟨b, off + i, none⟩ = some u from fun w H s => by
            obtain ⟨b, off, e, h⟩ := (HA.out w H s).at (by rintro rfl; simp at hu1)
            exact ⟨b, off, e, h i u hu1⟩)
          obtain ⟨bA, oA, rfl, -⟩ := HCC.out _ (row 32 1 (.slice (some ⟨g4, 0, none⟩) t t) t (vs ++ List.replicate (t - i) (.slice none 0 0)) * (rows 5 vs ((dt t Bk l fr n).take i) * (fx fb * (mo b3 g3 c3_ fb t t Bk * cd p fb xs ys)))) (s5.eq (by ac_rfl))
          have HC2 := Lib.hid (show ∀ w H, St B w0 w (H * R) → w.cell? ⟨bA, oA + i, none⟩ = some u from fun w H s => by
            obtain ⟨b, off, e, h⟩ := HCC.out w H s
            cases e
            exact h)
          have HD := Lib.hid (dt_succ t Bk l fr n i hlt)
          have HGA := Lib.hid (show ∀ x : Value, (vs ++ List.replicate (t - i) (Value.slice none 0 0))[i]? = some (.slice none 0 0) ∧ (vs ++ List.replicate (t - i) (Value.slice none 0 0)).set i x = (vs ++ [x]) ++ List.replicate (t - (i + 1)) (.slice none 0 0) from fun x => by
            have h := HVS.out.1
            have e : t - i = (t - (i + 1)) + 1 := by omega
            refine ⟨?_, ?_⟩
            · rw [List.getElem?_append_right (by omega), List.getElem?_replicate, if_pos (by omega)]
            · rw [List.set_append_right _ _ (by omega), e, List.replicate_succ, show i - vs.length = 0 by omega, List.set_cons_zero, List.append_assoc]; rfl)
          generalize (dt t Bk l fr n).take i = D at *
          clear hu1 HCC
          have S5 := Lib.hid s5
          clear s5
          have HO := Lib.hid (show sat l i = l[i] from sat_at hil)
          generalize l[i] = o at *
          have HE := Lib.hid (show ∀ x : Value, (vs ++ [x] ++ List.replicate (t - (i + 1)) (Value.slice none 0 0))[i]? = some x from fun x => by
            have h := HVS.out.1
            rw [List.getElem?_append_left (by simp [h]), List.getElem?_append_right (by omega), show i - vs.length = 0 by omega]; rfl)
          cases o with
          | none =>
            cases (show u = .slice none 0 0 from hu2)
            clear hu2
            have hn0 := fun w => Lib.run_eql_slice_nil (P := Try.prog) w 32 5 none 0 0 0 0 Try.underlying32
            obtain ⟨G, hG⟩ : ∃ G : Nat → Nat → UInt8, G = fun x q => gmul (Bk i x) (((sat l (fr.getD x 0)).getD []).getD q 0) := ⟨_, rfl⟩
            have HD1 := Lib.hid (show ∀ g, br g n (sg G t 0) = row 5 1 (.slice (some ⟨g, 0, none⟩) n n) (dt1 t Bk l fr n i).length (bvs (dt1 t Bk l fr n i)) from fun g => by
              unfold dt1
              rw [HO.out]
              simp only [List.length_map, List.length_range]
              unfold br
              rw [List.map_congr_left fun q _ => sg_end G t q, hG])
            have HGG := Lib.hid hG
            clear hG
            go_wp2_with (at_make; go_must (refine wpl_make1 rfl _ _ rfl tB rfl S5.out .i64 .i64 n n rfl rfl (Nat.le_refl _) (by unfold maxLen; omega) (by omega) ?_); intro g5 w5 s6; have s6 := (br_made s6).eq (Q := row 32 1 (.slice (some ⟨g4, 0, none⟩) t t) t (vs ++ List.replicate (t - i) (.slice none 0 0)) * (br g5 n (fun _ => 0) * (rows 5 vs D * (fx fb * (mo b3 g3 c3_ fb t t Bk * (cd p fb xs ys * R)))))) (by ac_rfl); obtain ⟨-, -, -, -, hc6, hf6, hs6⟩ := s6.row1; have c6 := hc6 i hlt; rw [(HGA.out (.slice none 0 0)).1] at c6; have f6 := hf6 i; have s7 := hs6 i (.slice (some ⟨g5, 0, none⟩) n n) hlt; rw [(HGA.out _).2] at s7; have cu := HC2.out _ (row 32 1 (.slice (some ⟨g4, 0, none⟩) t t) t ((vs ++ [.slice (some ⟨g5, 0, none⟩) n n]) ++ List.replicate (t - (i + 1)) (.slice none 0 0)) * (br g5 n (fun _ => 0) * (rows 5 vs D * (fx fb * (mo b3 g3 c3_ fb t t Bk * cd p fb xs ys))))) (s7.eq (by ac_rfl)); have S7 := Lib.hid s7; clear s6 hc6 hf6 hs6 s7 S5)
            generalize w5.setCell _ _ = w6 at S7 ⊢
            clear cu c6 f6
            go_loopw [85] (fun xi wr3 => ∃ x : Nat, x ≤ t ∧ xi = .int .i64 (x : Int) ∧ St B w0 wr3 (row 32 1 (.slice (some ⟨g4, 0, none⟩) t t) t ((vs ++ [.slice (some ⟨g5, 0, none⟩) n n]) ++ List.replicate (t - (i + 1)) (.slice none 0 0)) * (br g5 n (sg G x 0) * (rows 5 vs D * (fx fb * (mo b3 g3 c3_ fb t t Bk * (cd p fb xs ys * R))))))) (fun xi _ => t - (intOf xi).toNat)
            case atStart => exact ⟨0, Nat.zero_le _, rfl, by rw [br_congr fun q _ => (sg_zero G q)]; exact S7.out⟩
            case round =>
              obtain ⟨x, hxt, rfl, s8⟩ := hrel
              clear S7
              by_cases hltx : x < t
              · have hltxI : (x : Int) < (t : Int) := by omega
                have hft : x < fr.length := by rw [HFL.out, HK.out]; exact hltx
                obtain ⟨bf, of, rfl, hcf⟩ := (HF.out wr (row 32 1 (.slice (some ⟨g4, 0, none⟩) t t) t ((vs ++ [.slice (some ⟨g5, 0, none⟩) n n]) ++ List.replicate (t - (i + 1)) (.slice none 0 0)) * (br g5 n (sg G x 0) * (rows 5 vs D * (fx fb * (mo b3 g3 c3_ fb t t Bk * cd p fb xs ys))))) (s8.eq (by ac_rfl))).at (by intro e; have := congrArg List.length e; rw [List.length_map, List.length_nil] at this; omega)
                have cft := hcf x (.int .i64 (fr[x] : Int)) (by rw [nis, List.getElem?_map, List.getElem?_eq_getElem hft]; rfl)
                have hfb := HFS.out fr[x] (List.getElem_mem hft)
                have HGx := Lib.hid (show ∀ q, G x q = gmul (Bk i x) (((sat l fr[x]).getD []).getD q 0) from fun q => by rw [HGG.out]; simp only [List.getD, List.getElem?_eq_getElem hft, Option.getD_some])
                generalize fr[x] = m at *
                clear hcf
                have S8 := Lib.hid s8
                clear s8
                go_wp2_with fail
                refine (at_in b3 g3 c3_ fb t t Bk i x hlt hltx (by have : t * t ≤ 14 * 14 := Nat.mul_le_mul hk2 hk2; omega) wr (S8.out.eq (Q := mo b3 g3 c3_ fb t t Bk * (row 32 1 (.slice (some ⟨g4, 0, none⟩) t t) t ((vs ++ [.slice (some ⟨g5, 0, none⟩) n n]) ++ List.replicate (t - (i + 1)) (.slice none 0 0)) * (br g5 n (sg G x 0) * (rows 5 vs D * (fx fb * (cd p fb xs ys * R)))))) (by ac_rfl))).mono ?_
                rintro e w9 ⟨rfl, s9⟩
                have s9 := s9.eq (Q := row 32 1 (.slice (some ⟨g4, 0, none⟩) t t) t ((vs ++ [.slice (some ⟨g5, 0, none⟩) n n]) ++ List.replicate (t - (i + 1)) (.slice none 0 0)) * (br g5 n (sg G x 0) * (rows 5 vs D * (fx fb * (mo b3 g3 c3_ fb t t Bk * (cd p fb xs ys * R)))))) (by ac_rfl)
                obtain ⟨um, hum1, hum2⟩ := HU.out m hfb.1
                obtain ⟨bB, oB, eB, hcB⟩ := (HA.out w9 (row 32 1 (.slice (some ⟨g4, 0, none⟩) t t) t ((vs ++ [.slice (some ⟨g5, 0, none⟩) n n]) ++ List.replicate (t - (i + 1)) (.slice none 0 0)) * (br g5 n (sg G x 0) * (rows 5 vs D * (fx fb * (mo b3 g3 c3_ fb t t Bk * cd p fb xs ys))))) (s9.eq (by ac_rfl))).at (by rintro rfl; simp at hum1)
                cases eB
                have cum := hcB m um hum1
                have hsm := hfb.2
                rw [sat_at hfb.1] at hsm
                have HSM := Lib.hid (sat_at hfb.1)
                generalize l[m]'hfb.1 = om at *
                cases om with
                | none => cases hsm
                | some bm =>
                  obtain ⟨⟨gm, om_, nm, cm, rfl⟩, hmb⟩ := hum2
                  have hmn := HLN.out m bm HSM.out
                  obtain rfl : n = nm := by
                    have := (hmb w9 (row 32 1 (.slice (some ⟨g4, 0, none⟩) t t) t ((vs ++ [.slice (some ⟨g5, 0, none⟩) n n]) ++ List.replicate (t - (i + 1)) (.slice none 0 0)) * (br g5 n (sg G x 0) * (rows 5 vs D * (fx fb * (mo b3 g3 c3_ fb t t Bk * cd p fb xs ys))))) (s9.eq (by ac_rfl))).rd.1
                    omega
                  have HMB := Lib.hid hmb
                  have HMN := Lib.hid hmn
                  have hmlI : (m : Int) < (ll : Int) := by have := HLL.out; have := HL.out; have := HK.out; have := hfb.1; omega
                  have HGY := Lib.hid (show ∀ q, G x q = gmul (Bk i x) (bm.getD q 0) from fun q => by rw [HGx.out, HSM.out]; rfl)
                  clear hcB hum1 hsm hmb hmn hfb HSM HGx S8
                  generalize Bk i x = by_ at *
                  have S9 := Lib.hid s9
                  clear s9
                  go_wp2_with fail
                  go_loopw [99] (fun qi wr4 => ∃ q : Nat, q ≤ n ∧ qi = .int .i64 (q : Int) ∧ St B w0 wr4 (row 32 1 (.slice (some ⟨g4, 0, none⟩) t t) t ((vs ++ [.slice (some ⟨g5, 0, none⟩) n n]) ++ List.replicate (t - (i + 1)) (.slice none 0 0)) * (br g5 n (sg G x q) * (rows 5 vs D * (fx fb * (mo b3 g3 c3_ fb t t Bk * (cd p fb xs ys * R))))))) (fun qi _ => n - (intOf qi).toNat)
                  case atStart => exact ⟨0, Nat.zero_le _, rfl, S9.out⟩
                  case round =>
                    obtain ⟨q, hqn, rfl, s10⟩ := hrel
                    clear S9
                    by_cases hq : q < n
                    · have hqI : (q : Int) < (n : Int) := by omega
                      have hb4 := HMB.out _ (row 32 1 (.slice (some ⟨g4, 0, none⟩) t t) t ((vs ++ [.slice (some ⟨g5, 0, none⟩) n n]) ++ List.replicate (t - (i + 1)) (.slice none 0 0)) * (br g5 n (sg G x q) * (rows 5 vs D * (fx fb * (mo b3 g3 c3_ fb t t Bk * cd p fb xs ys))))) (s10.eq (by ac_rfl))
                      have c4 := hb4.cellAt q (by rw [HMN.out]; exact hq)
                      have HFq := HGY.out q
                      rw [show bm.getD q 0 = bm[q]'(by rw [HMN.out]; exact hq) from by simp [List.getD, HMN.out, hq]] at HFq
                      have HFq := Lib.hid HFq
                      generalize bm[q]'(by rw [HMN.out]; exact hq) = z at *
                      have HX := Lib.hid (bits_xor_u8' (sg G x q q) (gmul by_ z))
                      have HS := Lib.hid (sg_step G x q)
                      rw [HFq.out] at HS
                      have HCG := Lib.hid (show ∀ w' X, St B w0 w' (row 32 1 (.slice (some ⟨g4, 0, none⟩) t t) t ((vs ++ [.slice (some ⟨g5, 0, none⟩) n n]) ++ List.replicate (t - (i + 1)) (.slice none 0 0)) * X) → w'.cell? ⟨g4, i, none⟩ = some (.slice (some ⟨g5, 0, none⟩) n n) from fun w' X s => by
                        have := s.row1.2.2.2.2.1 i hlt
                        rw [HE.out] at this
                        exact this)
                      clear hb4 HFq
                      have S10 := Lib.hid s10
                      clear s10
                      go_wp2_with fail
                      refine wp_region_rx (fun pp_ w' => St B w0 w' (row 32 1 (.slice (some ⟨g4, 0, none⟩) t t) t ((vs ++ [.slice (some ⟨g5, 0, none⟩) n n]) ++ List.replicate (t - (i + 1)) (.slice none 0 0)) * (br g5 n (sg G x (if pp_ = 0 then q else q + 1)) * (rows 5 vs D * (fx fb * (mo b3 g3 c3_ fb t t Bk * (cd p fb xs ys * R))))))) [16] Gf.mixed (by kernel_rfl) (by kernel_rfl) S10.out.drew ?_
                      refine RXl.exact (.slice (some ⟨g4, 0, none⟩) t t) rfl rfl rfl rfl rfl (fun _ _ _ _ _ => rfl) ?_
                      refine RXl.exact (.int .i64 (i : Int)) rfl rfl rfl rfl rfl (fun _ _ _ _ _ => rfl) ?_
                      refine RXl.exact (.pointer (some ⟨g4, i, none⟩)) rfl rfl rfl rfl rfl (fun j τ w' hj hJ => by have t1 : (i : Int) < (t : Int) := (by omega); simp [rho, upd, Spec.val, execOp, go_sem, t1]) ?_
                      refine RXl.exactB 0 16 rfl (by kernel_rfl) (.slice (some ⟨g5, 0, none⟩) n n) rfl rfl rfl rfl rfl (fun j τ w' hj hJ => by have c := HCG.out _ _ hJ; simp [rho, upd, Spec.val, execOp, go_sem, c]) ?_
                      refine RXl.exact (.int .i64 (q : Int)) rfl rfl rfl rfl rfl (fun _ _ _ _ _ => rfl) ?_
                      refine RXl.exact (.pointer (some ⟨g5, q, none⟩)) rfl rfl rfl rfl rfl (fun j τ w' hj hJ => by have t1 : (q : Int) < (n : Int) := (by omega); simp [rho, upd, Spec.val, execOp, go_sem, t1]) ?_
                      refine RXl.exactB 0 16 rfl (by kernel_rfl) (bv (sg G x q q)) rfl rfl rfl rfl rfl (fun j τ w' hj hJ => by obtain rfl : j = 0 := (by omega); have c := br_at (St.eq (sep_left_comm _ _ _) hJ) hq; rw [if_pos rfl] at c; simp [rho, upd, Spec.val, execOp, go_sem, c]) ?_
                      refine RXl.exact (.pointer (some ⟨p, 0, none⟩)) rfl rfl rfl rfl rfl (fun _ _ _ _ _ => rfl) ?_
                      refine RXl.exact (.pointer (some ⟨p, 0, none⟩)) rfl rfl rfl rfl rfl (fun j τ w' hj hJ => by simp [rho, upd, Spec.val, execOp, go_sem]) ?_
                      refine RXl.exact (.pointer (some ⟨p, 0, none⟩)) rfl rfl rfl rfl rfl (fun j τ w' hj hJ => by simp [rho, upd, Spec.val, execOp, go_sem]) ?_
                      refine RXl.exactB 0 16 rfl (by kernel_rfl) (.pointer (some ⟨fb, 0, none⟩)) rfl rfl rfl rfl rfl (fun j τ w' hj hJ => by have c := cd_fb (St.eq (Q := cd p fb xs ys * (row 32 1 (.slice (some ⟨g4, 0, none⟩) t t) t ((vs ++ [.slice (some ⟨g5, 0, none⟩) n n]) ++ List.replicate (t - (i + 1)) (.slice none 0 0)) * (br g5 n (sg G x (if j = 0 then q else q + 1)) * (rows 5 vs D * (fx fb * (mo b3 g3 c3_ fb t t Bk * R)))))) (by ac_rfl) hJ); simp [rho, upd, Spec.val, execOp, go_sem, c]) ?_
                      refine RXl.exact (bv by_) rfl rfl rfl rfl rfl (fun _ _ _ _ _ => rfl) ?_
                      refine RXl.exact (bv z) rfl rfl rfl rfl rfl (fun _ _ _ _ _ => rfl) ?_
                      refine RXl.callr (bv (gmul by_ z)) _ [.pointer (some ⟨fb, 0, none⟩), bv by_, bv z] [.tmp 114, .tmp 115, .tmp 116] _ rfl rfl rfl rfl rfl rfl (fun _ => rfl) (fun j τ w' hj hJ => (mulx fb by_ z w' (St.eq (Q := fx fb * (row 32 1 (.slice (some ⟨g4, 0, none⟩) t t) t ((vs ++ [.slice (some ⟨g5, 0, none⟩) n n]) ++ List.replicate (t - (i + 1)) (.slice none 0 0)) * (br g5 n (sg G x (if j = 0 then q else q + 1)) * (rows 5 vs D * (mo b3 g3 c3_ fb t t Bk * (cd p fb xs ys * R)))))) (by ac_rfl) hJ)).mono fun _ _ h => ⟨h.1, h.2.eq (by ac_rfl)⟩) ?_
                      refine RXl.exact (bv (sg G x q q ^^^ gmul by_ z)) rfl rfl rfl rfl rfl (fun j τ w' hj hJ => by have c := HX.out; simp [rho, upd, Spec.val, execOp, go_sem, c]) ?_
                      refine RXl.exact (.pointer (some ⟨g5, q, none⟩)) rfl rfl rfl rfl rfl (fun j τ w' hj hJ => by have t1 : (q : Int) < (n : Int) := (by omega); simp [rho, upd, Spec.val, execOp, go_sem, t1]) ?_
                      refine RXl.effj 0 rfl rfl rfl rfl rfl rfl (fun w' hJ => (let h := br_set (St.eq (sep_left_comm _ _ _) hJ) hq (sg G x q q ^^^ gmul by_ z); ⟨_, exec_store rfl rfl rfl rfl (by kernel_rfl) (br_at (St.eq (sep_left_comm _ _ _) hJ) hq) h.1, by have q2 := h.2; rw [if_pos rfl, br_congr (fun y _ => HS.out y)] at q2; exact q2.eq (sep_left_comm _ _ _)⟩)) ?_
                      refine RXl.nilx _ (Agr.upd _ _ (Agr.upd _ _ (Agr.upd _ _ (Agr.upd _ _ (Agr.upd _ _ (Agr.upd _ _ (Agr.upd _ _ (Agr.upd _ _ (Agr.upd _ _ (Agr.upd _ _ (Agr.upd _ _ (Agr.upd _ _ (Agr.upd _ _ (Agr.upd _ _ (Agr.upd _ _ (Agr.upd _ _ (Agr.base _))))))))))))))))) fun w8 hJ => ?_
                      obtain ⟨_, hJ⟩ := hJ
                      simp only [Act.put, List.setIfInBounds_toArray, List.set_cons_succ, List.set_cons_zero]
                      have S11 := Lib.hid (show St B w0 w8 (row 32 1 (.slice (some ⟨g4, 0, none⟩) t t) t ((vs ++ [.slice (some ⟨g5, 0, none⟩) n n]) ++ List.replicate (t - (i + 1)) (.slice none 0 0)) * (br g5 n (sg G x (q + 1)) * (rows 5 vs D * (fx fb * (mo b3 g3 c3_ fb t t Bk * (cd p fb xs ys * R)))))) from hJ)
                      clear hJ S10 HS HX c4 HCG
                      go_wp2_with fail
                      go_roundw
                      case rel => exact ⟨q + 1, by omega, by go_num, S11.out⟩
                      case measure => simp [intOf]; omega
                    · obtain rfl : q = n := by omega
                      have S11 := Lib.hid (show St B w0 _ (_ * (br g5 q (sg G (x + 1) 0) * _)) from by rw [← br_congr (sg_next G x q)]; exact s10)
                      clear s10
                      go_wp2_with fail
                      go_roundw
                      case rel => exact ⟨x + 1, by omega, by go_num, S11.out⟩
                      case measure => simp [intOf]; omega
              · obtain rfl : x = t := by omega
                rw [HD1.out g5] at s8
                have S8 := Lib.hid s8
                clear s8
                go_wp2_with fail
                go_roundw
                case rel =>
                  refine ⟨i + 1, vs ++ [.slice (some ⟨g5, 0, none⟩) n n], by omega, by go_num, by simp [HVS.out.1], HVS.out.2.snoc ⟨_, _, _, rfl⟩, ?_⟩
                  rw [HD.out, rows_snoc _ _ _ _ _ (by have h := congrArg List.length HD.out; rw [List.length_take, List.length_append] at h; simp [dt] at h; rw [HVS.out.1]; omega)]
                  exact S8.out.eq (by ac_rfl)
                case measure => simp [intOf]; omega
          | some b =>
            obtain ⟨⟨gu, ou, nu, cu_, rfl⟩, hub⟩ := hu2
            have hbn := HLN.out i b HO.out
            obtain rfl : n = nu := by
              have := (hub wr (row 32 1 (.slice (some ⟨g4, 0, none⟩) t t) t (vs ++ List.replicate (t - i) (.slice none 0 0)) * (rows 5 vs D * (fx fb * (mo b3 g3 c3_ fb t t Bk * cd p fb xs ys)))) (S5.out.eq (by ac_rfl))).rd.1
              omega
            have hn0 := fun w => Lib.run_eql_slice_nil (P := Try.prog) w 32 5 (some ⟨gu, ou, none⟩) n cu_ 0 0 Try.underlying32
            have HUB := Lib.hid hub
            have HBN := Lib.hid hbn
            clear hub hbn
            go_wp2_with (at_make; go_must (refine wpl_make1 rfl _ _ rfl tB rfl S5.out .i64 .i64 n n rfl rfl (Nat.le_refl _) (by unfold maxLen; omega) (by omega) ?_); intro g5 w5 s6; have s6 := (br_made s6).eq (Q := row 32 1 (.slice (some ⟨g4, 0, none⟩) t t) t (vs ++ List.replicate (t - i) (.slice none 0 0)) * (br g5 n (fun _ => 0) * (rows 5 vs D * (fx fb * (mo b3 g3 c3_ fb t t Bk * (cd p fb xs ys * R)))))) (by ac_rfl); obtain ⟨-, -, -, -, hc6, hf6, hs6⟩ := s6.row1; have c6 := hc6 i hlt; rw [(HGA.out (.slice none 0 0)).1] at c6; have f6 := hf6 i; have s7 := hs6 i (.slice (some ⟨g5, 0, none⟩) n n) hlt; rw [(HGA.out _).2] at s7; have cu := HC2.out _ (row 32 1 (.slice (some ⟨g4, 0, none⟩) t t) t ((vs ++ [.slice (some ⟨g5, 0, none⟩) n n]) ++ List.replicate (t - (i + 1)) (.slice none 0 0)) * (br g5 n (fun _ => 0) * (rows 5 vs D * (fx fb * (mo b3 g3 c3_ fb t t Bk * cd p fb xs ys))))) (s7.eq (by ac_rfl)); have S7 := Lib.hid s7; clear s6 hc6 hf6 hs6 s7 S5)
            generalize w5.setCell _ _ = w6 at S7 ⊢
            clear cu c6 f6
            have HCG := Lib.hid (show ∀ w' X, St B w0 w' (row 32 1 (.slice (some ⟨g4, 0, none⟩) t t) t ((vs ++ [.slice (some ⟨g5, 0, none⟩) n n]) ++ List.replicate (t - (i + 1)) (.slice none 0 0)) * X) → w'.cell? ⟨g4, i, none⟩ = some (.slice (some ⟨g5, 0, none⟩) n n) from fun w' X s => by
              have := s.row1.2.2.2.2.1 i hlt
              rw [HE.out] at this
              exact this)
            have cpy : ∀ w', St B w0 w' (row 32 1 (.slice (some ⟨g4, 0, none⟩) t t) t ((vs ++ [.slice (some ⟨g5, 0, none⟩) n n]) ++ List.replicate (t - (i + 1)) (.slice none 0 0)) * (row 5 1 (.slice (some ⟨g5, 0, none⟩) n n) n (bvs ((List.range n).map (fun _ => 0))) * (rows 5 vs D * (fx fb * (mo b3 g3 c3_ fb t t Bk * (cd p fb xs ys * R)))))) →
                ∃ w2, (Builtin.copy_ #[32, 32] 3 #[.slice (some ⟨g5, 0, none⟩) n n, .slice (some ⟨gu, ou, none⟩) n cu_]).run Try.prog w' = .ok (.int .i64 (n : Int)) w2 ∧
                  St B w0 w2 (row 32 1 (.slice (some ⟨g4, 0, none⟩) t t) t ((vs ++ [.slice (some ⟨g5, 0, none⟩) n n]) ++ List.replicate (t - (i + 1)) (.slice none 0 0)) * (row 5 1 (.slice (some ⟨g5, 0, none⟩) n n) n (bvs b) * (rows 5 vs D * (fx fb * (mo b3 g3 c3_ fb t t Bk * (cd p fb xs ys * R)))))) := fun w' s => by
              have hb := HUB.out w' (row 32 1 (.slice (some ⟨g4, 0, none⟩) t t) t ((vs ++ [.slice (some ⟨g5, 0, none⟩) n n]) ++ List.replicate (t - (i + 1)) (.slice none 0 0)) * (row 5 1 (.slice (some ⟨g5, 0, none⟩) n n) n (bvs ((List.range n).map (fun _ => 0))) * (rows 5 vs D * (fx fb * (mo b3 g3 c3_ fb t t Bk * cd p fb xs ys))))) (s.eq (by ac_rfl))
              have hl := HBN.out
              obtain ⟨w2, r1, r2⟩ := copy_st (P := Try.prog) (dT := 32) (sT := 32) (ty := 3) Try.underlying32 (by kernel_rfl) (s.eq (sep_left_comm _ _ _)) 0 n n (some ⟨gu, ou, none⟩) cu_ b (by rw [hl]; exact hb) (by omega) (by rw [hl]; simp)
              rw [hl] at r1
              rw [List.take_zero, List.nil_append, List.drop_eq_nil_of_le (by simp [hl]), List.append_nil] at r2
              exact ⟨w2, r1, r2.eq (sep_left_comm _ _ _)⟩
            refine wp_region_rx (fun pp_ w' => St B w0 w' (row 32 1 (.slice (some ⟨g4, 0, none⟩) t t) t ((vs ++ [.slice (some ⟨g5, 0, none⟩) n n]) ++ List.replicate (t - (i + 1)) (.slice none 0 0)) * (row 5 1 (.slice (some ⟨g5, 0, none⟩) n n) n (bvs (if pp_ = 0 then (List.range n).map (fun _ => 0) else b)) * (rows 5 vs D * (fx fb * (mo b3 g3 c3_ fb t t Bk * (cd p fb xs ys * R))))))) [8] Gf.mixed (by kernel_rfl) (by kernel_rfl) S7.out.drew ?_
            refine RXl.exact (.slice (some ⟨g4, 0, none⟩) t t) rfl rfl rfl rfl rfl (fun _ _ _ _ _ => rfl) ?_
            refine RXl.exact (.int .i64 (i : Int)) rfl rfl rfl rfl rfl (fun _ _ _ _ _ => rfl) ?_
            refine RXl.exact (.pointer (some ⟨g4, i, none⟩)) rfl rfl rfl rfl rfl (fun j τ w' hj hJ => by have t1 : (i : Int) < (t : Int) := (by omega); simp [rho, upd, Spec.val, execOp, go_sem, t1]) ?_
            refine RXl.exact (.slice (some ⟨g5, 0, none⟩) n n) rfl rfl rfl rfl rfl (fun j τ w' hj hJ => by have c := HCG.out _ _ hJ; simp [rho, upd, Spec.val, execOp, go_sem, c]) ?_
            refine RXl.exact (.slice (some ⟨bA, oA, none⟩) ll c) rfl rfl rfl rfl rfl (fun _ _ _ _ _ => rfl) ?_
            refine RXl.exact (.int .i64 (i : Int)) rfl rfl rfl rfl rfl (fun _ _ _ _ _ => rfl) ?_
            refine RXl.exact (.pointer (some ⟨bA, oA + i, none⟩)) rfl rfl rfl rfl rfl (fun j τ w' hj hJ => by have t1 : (i : Int) < (ll : Int) := (by omega); simp [rho, upd, Spec.val, execOp, go_sem, t1]) ?_
            refine RXl.exact (.slice (some ⟨gu, ou, none⟩) n cu_) rfl rfl rfl rfl rfl (fun j τ w' hj hJ => by have c := HC2.out _ (row 32 1 (.slice (some ⟨g4, 0, none⟩) t t) t ((vs ++ [.slice (some ⟨g5, 0, none⟩) n n]) ++ List.replicate (t - (i + 1)) (.slice none 0 0)) * (row 5 1 (.slice (some ⟨g5, 0, none⟩) n n) n (bvs (if j = 0 then (List.range n).map (fun _ => 0) else b)) * (rows 5 vs D * (fx fb * (mo b3 g3 c3_ fb t t Bk * cd p fb xs ys))))) (St.eq (by ac_rfl) hJ); simp [rho, upd, Spec.val, execOp, go_sem, c]) ?_
            refine RXl.effk 0 (.int .i64 (n : Int)) rfl rfl rfl rfl rfl (fun w' hJ => (let ⟨w2, r1, r2⟩ := cpy w' hJ; ⟨w2, exec_copy rfl r1, r2⟩)) ?_
            refine RXl.nilx _ (Agr.upd _ _ (Agr.upd _ _ (Agr.upd _ _ (Agr.upd _ _ (Agr.upd _ _ (Agr.upd _ _ (Agr.upd _ _ (Agr.upd _ _ (Agr.upd _ _ (Agr.base _)))))))))) fun w8 hJ => ?_
            obtain ⟨_, hJ⟩ := hJ
            simp only [Act.put, List.setIfInBounds_toArray, List.set_cons_succ, List.set_cons_zero]
            have S9 := Lib.hid (show St B w0 w8 (row 32 1 (.slice (some ⟨g4, 0, none⟩) t t) t ((vs ++ [.slice (some ⟨g5, 0, none⟩) n n]) ++ List.replicate (t - (i + 1)) (.slice none 0 0)) * (row 5 1 (.slice (some ⟨g5, 0, none⟩) n n) n (bvs b) * (rows 5 vs D * (fx fb * (mo b3 g3 c3_ fb t t Bk * (cd p fb xs ys * R)))))) from hJ)
            have HD1 := Lib.hid (show dt1 t Bk l fr n i = b from by unfold dt1; rw [HO.out])
            clear hJ S7 HCG cpy
            go_wp2_with fail
            go_roundw
            case rel =>
              refine ⟨i + 1, vs ++ [.slice (some ⟨g5, 0, none⟩) n n], by omega, by go_num, by simp [HVS.out.1], HVS.out.2.snoc ⟨_, _, _, rfl⟩, ?_⟩
              rw [HD.out, HD1.out, rows_snoc _ _ _ _ _ (by have h := congrArg List.length HD.out; rw [List.length_take, List.length_append] at h; simp [dt] at h; rw [HVS.out.1]; omega), HBN.out]
              exact S9.out.eq (by ac_rfl)
            case measure => simp [intOf]; omega
        · obtain rfl : i = t := by omega
          have S5 := Lib.hid s5
          clear s5
          go_wp2_with fail
          go_ret
          refine ⟨As, Bk, _, vs, ?_, rfl, ?_, HVS.out.2, ?_⟩
          · have h := HG.out; rw [HK.out] at h; exact h
          · exact HVS.out.1
          · have h1 : (dt i Bk l fr n).length = i := by simp [dt]
            have h2 : (dt i Bk l fr n).take i = dt i Bk l fr n := List.take_of_length_le (by omega)
            have s6 := S5.out
            rw [Nat.sub_self, List.replicate_zero, List.append_nil, h2] at s6
            exact (s6.eq (Q := mo b3 g3 c3_ fb i i Bk * (ob (.slice (some ⟨g4, 0, none⟩) i i) vs (dt i Bk l fr n) * (fx fb * (cd p fb xs ys * R)))) (by unfold ob; rw [h1]; ac_rfl)).right
end
end Go.Proofs.Ytjnfhppjkadlpaa.Cd
