/- Go's sort of a row of at most eighteen bytes. No condition. -/
import Derived.Test.YtjnfhppjkadlpaaSrD
set_option linter.unusedSimpArgs false
set_option linter.unusedVariables false
namespace Go.Proofs.Ytjnfhppjkadlpaa.SrA
open Go Go.RowKit Go.Sort Go.Proofs.Ytjnfhppjkadlpaa Go.Proofs.Ytjnfhppjkadlpaa.Sp
theorem swo_ltU : SWO ltU where
  irrefl x := by simp [ltU]
  trans x y z h1 h2 := by simp only [ltU, decide_eq_true_eq] at *; omega
  ntrans x y z h1 h2 := by simp only [ltU, decide_eq_false_iff_not] at *; omega
/-- What a sort gives. -/
def SortP (B : Nat) (w0 : World) (g a b : Nat) (d : Array UInt8) (X : List Value) (R : HP) (e : Ending) (w' : World) : Prop :=
  e = .returned (.tuple #[]) ∧ ∃ d', PermIn a b d d' ∧ SortedIn ltU a b d' ∧ St B w0 w' (arr g d' X * R)
/-- What is left to do: whatever sorts the rest sorts all. -/
def Left (a0 b0 : Nat) (d0 : Array UInt8) (a b : Nat) (d : Array UInt8) : Prop := ∀ d', PermIn a b d d' → SortedIn ltU a b d' → PermIn a0 b0 d0 d' ∧ SortedIn ltU a0 b0 d'
/-- The bound on the limit: the heap is never asked. -/
def LimOk (a b limit : Nat) (wb : Bool) : Prop := (b ≤ a + 17 ∧ b ≤ a + limit + 12) ∨ (wb = true ∧ b = a + 18 ∧ limit = 5) ∨ b ≤ a + 12
section
variable {B : Nat} {w0 : World} {R : HP}
set_option maxRecDepth 100000 in
set_option maxHeartbeats 16000000 in
theorem pdq_calls (g n c : Nat) (X : List Value) (hs : n ≤ 18) : ∀ (m a b limit : Nat) (d : Array UInt8) (w : World), b - a ≤ m → d.size = n → a ≤ b → b ≤ n → limit ≤ 5 → LimOk a b limit true → Below ltU a b d → St B w0 w (arr g d X * R) →
    Calls Try.prog 68 #[.slice (some ⟨g, 0, none⟩) n c, .int .i64 a, .int .i64 b, .int .i64 limit] w (SortP B w0 g a b d X R) := by
  intro m
  induction m using Nat.strongRecOn with
  | _ m IH =>
  intro a0 b0 limit0 d0 w hm hn hab hb hlm hlo hbel s
  have HIH := Lib.hid IH
  have HB0 := Lib.hid hbel
  have HL0 := Lib.hid hlo
  have S := Lib.hid s
  have Hn := Lib.hid hn
  clear s hn
  clear IH hbel hlo
  go_enter Try.func68, Try.ntmps68
  go_wp2_with fail
  go_loopw [1, 2, 3, 8, 9] (fun va vb vl vwb vwp wr => ∃ (a b limit : Nat) (wb wp : Bool) (d : Array UInt8), va = .int .i64 a ∧ vb = .int .i64 b ∧ vl = .int .i64 limit ∧ vwb = .bool wb ∧ vwp = .bool wp ∧ a0 ≤ a ∧ a ≤ b ∧ b ≤ b0 ∧ limit ≤ 5 ∧ LimOk a b limit wb ∧ d.size = n ∧ Below ltU a b d ∧ Left a0 b0 d0 a b d ∧ St B w0 wr (arr g d X * R)) (fun va vb _ _ _ _ => (intOf vb).toNat - (intOf va).toNat)
  case atStart => exact ⟨a0, b0, limit0, true, true, d0, rfl, rfl, rfl, rfl, rfl, Nat.le_refl _, hab, Nat.le_refl _, hlm, HL0.out, Hn.out, HB0.out, fun d' h1 h2 => ⟨h1, h2⟩, S.out⟩
  case round =>
    obtain ⟨a, b, limit, wb, wp, d, rfl, rfl, rfl, rfl, rfl, h1, h2, h3, h4, hlo, hsk, hbel, hleft, s1⟩ := hrel
    clear S HB0 HL0
    have HBL := Lib.hid hbel
    have HLF := Lib.hid hleft
    by_cases hsm : b ≤ a + 12
    · have hsI : (b : Int) - (a : Int) ≤ 12 := by omega
      have Q := Lib.hid (ins_calls (B := B) (w0 := w0) (R := R) g n c a b d X hsk (by omega) h2 (by omega) _ s1)
      have HI := Lib.hid (insertionSort_holds swo_ltU d a b h2 (by omega))
      clear hbel hleft s1 hlo hsk
      go_wp2_with fail
      refine Q.out.mono ?_
      rintro e w2 ⟨rfl, s2⟩
      have S2 := Lib.hid s2
      clear s2 Q
      go_wp2_with fail
      first | go_end0 | refine bodyPost_ret (results_none rfl _ _ _) rfl ?_
      obtain ⟨hp, hso⟩ := HLF.out _ HI.out.1 HI.out.2
      exact ⟨rfl, _, hp, hso, S2.out⟩
    · have hsI : ¬ (b : Int) - (a : Int) ≤ 12 := by omega
      have hl1 : 1 ≤ limit := by rcases hlo with h | h | h <;> omega
      have hlI : ((limit : Int) == 0) = false := by simp; omega
      have hb18 : b ≤ a + 18 := by omega
      have HLO := Lib.hid hlo
      have HSK := Lib.hid hsk
      have S1 := Lib.hid s1
      clear hbel hleft s1 hlo hsk
      go_upto_if 35 with fail
      go_cut [3] from 36 to 41 (fun vl wx => ∃ (limit1 : Nat) (d1 : Array UInt8), vl = .int .i64 limit1 ∧ limit1 ≤ 5 ∧ b ≤ a + limit1 + 13 ∧ PermIn a b d d1 ∧ St B w0 wx (arr g d1 X * R))
      case first =>
        cases wb with
        | true =>
          go_wp2_with fail
          go_meet
          exact ⟨limit, d, rfl, h4, by rcases HLO.out with h | h | h <;> omega, permIn_refl _ _ _, S1.out⟩
        | false =>
          go_wp2_with fail
          refine (brk_calls g n c a b d X HSK.out hs (by omega) (by omega) _ S1.out).mono ?_
          rintro e w2 ⟨rfl, d1, hp1, s2⟩
          have S2 := Lib.hid s2
          have HP1 := Lib.hid hp1
          clear s2 hp1
          go_wp2_with fail
          go_meet
          exact ⟨limit - 1, d1, by congr 1; omega, by omega, by rcases HLO.out with h | h | h <;> first | omega | (exact absurd h.1 (by simp)), HP1.out, S2.out⟩
      obtain ⟨limit1, d1, rfl, hl5, hl13, hp1, s2⟩ := hcut
      have hsz1 : d1.size = n := by rw [hp1.1]; exact HSK.out
      have hbel1 := Below.perm HBL.out (by rw [HSK.out]; omega) hp1
      have hleft1 : Left a0 b0 d0 a b d1 := fun d' g1 g2 => HLF.out d' (permIn_trans _ _ _ _ _ hp1 g1) g2
      have HLF1 := Lib.hid hleft1
      have HBL1 := Lib.hid hbel1
      have HSZ1 := Lib.hid hsz1
      have hpr := choosePivot_holds ltU d1 a b (by omega)
      have hhn := piv_hint d1 (a := a) (b := b) (by omega) (by omega)
      have Q := Lib.hid (piv_calls (B := B) (w0 := w0) (R := R) g n c a b d1 X hsz1 (by omega) (by omega) (by omega) _ s2)
      generalize choosePivot ltU d1 a b = ph at *
      obtain ⟨p, hh⟩ := ph
      simp only at hpr hhn
      obtain ⟨hp1', hp2'⟩ := hpr
      have hh2 : (hintV hh == 2) = false := by cases hh <;> first | rfl | exact absurd rfl hhn
      clear s2 S1 hp1 hsz1 hbel1 hleft1 HBL HLF HSK HLO hl1 hlI h4 hhn
      go_wp2_with fail
      refine Q.out.mono ?_
      rintro e w3 ⟨rfl, s3⟩
      have S3 := Lib.hid s3
      clear s3 Q
      go_upto_region 15 with fail
      clear hh2
      go_cut [68] from 61 to 67 (fun v68 wx => (∃ cb : Bool, v68 = .bool cb) ∧ St B w0 wx (arr g d1 X * R))
      case first =>
        cases wb <;> cases wp <;> cases hh
        all_goals
          go_wp2_with fail
          go_meet
          exact ⟨⟨_, rfl⟩, S3.out⟩
      obtain ⟨⟨cb, rfl⟩, s3⟩ := hcut
      have S4 := Lib.hid s3
      clear s3 S3
      go_upto_if 68 with fail
      go_cut [] from 69 to 72 (fun wx => St B w0 wx (arr g d1 X * R))
      case first =>
        cases cb with
        | false =>
          go_wp2_with fail
          go_meet
          exact S4.out
        | true =>
          have hpi := partialInsertionSort_holds swo_ltU d1 a b (by omega) (by rw [HSZ1.out]; omega) HBL1.out
          have Q := Lib.hid (pins_calls (B := B) (w0 := w0) (R := R) g n c a b d1 X HSZ1.out (by omega) (by omega) (by omega) _ S4.out)
          generalize partialInsertionSort ltU d1 a b = pr at *
          obtain ⟨dz, bz⟩ := pr
          simp only at hpi
          have HPI := Lib.hid hpi
          clear hpi
          go_wp2_with fail
          refine Q.out.mono ?_
          rintro e w4 ⟨rfl, hdz, s4⟩
          have S5 := Lib.hid s4
          have HDZ := Lib.hid hdz
          clear s4 hdz Q S4
          cases bz with
          | false =>
            go_wp2_with fail
            go_meet
            exact S5.out
          | true =>
            go_wp2_with fail
            first | go_end0 | refine bodyPost_ret (results_none rfl _ _ _) rfl ?_
            have hd : dz = d1 := HDZ.out
            have hx := HPI.out
            rw [hd] at hx
            obtain ⟨hp, hso⟩ := HLF1.out _ hx.1 (hx.2 (by trivial))
            exact ⟨rfl, _, hp, hso, S5.out⟩
      have S5 := Lib.hid hcut
      clear hcut S4
      go_upto_region 17 with fail
      go_cut [87] from 73 to 86 (fun v87 wx => v87 = .bool (decide (0 < a) && !ltU d1[a - 1]! d1[p]!) ∧ St B w0 wx (arr g d1 X * R))
      case first =>
        have s6 := S5.out
        have hsz := HSZ1.out
        obtain ⟨G, hG⟩ : ∃ G : Nat → UInt8, ∀ t, G t = d1[t]! := ⟨fun t => d1[t]!, fun _ => rfl⟩
        have c1 := arr_fam s6 p (by omega)
        have HG := Lib.hid hG
        by_cases ha0 : 0 < a
        · have haI : (0 : Int) < (a : Int) := by omega
          have c0 := arr_fam s6 (a - 1) (by omega)
          rw [← hG] at c0 c1
          clear s6 hsz hG
          go_wp2_with fail
          go_quiet (first | (go_at_call 83; refine Calls.quiet_of_same (less_calls _ _ _)))
          go_wp2_with fail
          go_meet
          exact ⟨by rw [HG.out, HG.out]; simp [ha0], S5.out.drewN _⟩
        · obtain rfl : a = 0 := by omega
          rw [← hG] at c1
          have haI : decide ((0 : Int) < ((0 : Nat) : Int)) = false := by simp
          clear s6 hsz hG
          go_wp2_with fail
          go_quiet (first | (go_at_call 83; refine Calls.quiet_of_same (less_calls _ _ _)))
          go_wp2_with fail
          go_meet
          exact ⟨by simp, S5.out.drewN _⟩
      obtain ⟨rfl, s6⟩ := hcut
      have S6 := Lib.hid s6
      clear s6 S5
      obtain ⟨pe, hpe⟩ : ∃ pe, (decide (0 < a) && !ltU d1[a - 1]! d1[p]!) = pe := ⟨_, rfl⟩
      rw [hpe]
      have HPE := Lib.hid hpe
      clear hpe
      cases pe with
      | true =>
        have hz := HPE.out
        simp only [Bool.and_eq_true, decide_eq_true_eq, Bool.not_eq_true'] at hz
        obtain ⟨ha0, hnl⟩ := hz
        have hre := fun mid d4 hx => round_eq (pivot := p) (mid := mid) (d4 := d4) swo_ltU (partitionEqual_holds ltU) ha0 hp1' hp2' (by rw [HSZ1.out]; omega) HBL1.out hnl hx
        have Q := Lib.hid (parq_calls (B := B) (w0 := w0) (R := R) g n c a b p d1 X HSZ1.out (by omega) hp1' hp2' (by omega) _ S6.out)
        generalize partitionEqual ltU d1 a b p = pr at *
        obtain ⟨mid, d4⟩ := pr
        obtain ⟨g1, g2, g3, g4, g5⟩ := hre mid d4 rfl
        have HN := Lib.hid (And.intro (g3.trans HSZ1.out) (And.intro g4 (show Left a0 b0 d0 mid b d4 from fun d' k1 k2 => HLF1.out d' (g5 d' k1 k2).1 (g5 d' k1 k2).2)))
        clear hre g3 g4 g5 hnl HPE
        go_wp2_with fail
        refine Q.out.mono ?_
        rintro e w4 ⟨rfl, s4⟩
        have S7 := Lib.hid s4
        clear s4 Q S6
        go_wp2_with fail
        go_roundw
        case rel => exact ⟨mid, b, limit1, wb, wp, d4, rfl, rfl, rfl, rfl, rfl, by omega, by omega, by omega, by omega, .inl ⟨by omega, by omega⟩, HN.out.1, HN.out.2.1, HN.out.2.2, S7.out⟩
        case measure => (simp [intOf] <;> omega)
      | false =>
        have hre := fun mid ap d4 hx => round_part (pivot := p) (mid := mid) (ap := ap) (d4 := d4) swo_ltU (partition_holds ltU) hp1' hp2' (by rw [HSZ1.out]; omega) HBL1.out hx
        have Q := Lib.hid (part_calls (B := B) (w0 := w0) (R := R) g n c a b p d1 X HSZ1.out (by omega) hp1' hp2' (by omega) _ S6.out)
        generalize partition ltU d1 a b p = pr at *
        obtain ⟨mid, ap, d4⟩ := pr
        obtain ⟨g1, g2, g3, g4, g5, g6, g7⟩ := hre mid ap d4 rfl
        have hszd : d4.size = n := g3.trans HSZ1.out
        have HSZ4 := Lib.hid hszd
        have hdv : Int.tdiv ((b : Int) - (a : Int)) 8 = (((b - a) / 8 : Nat) : Int) := by rw [Int.tdiv_eq_ediv_of_nonneg (by omega)]; omega
        have hdv2 : ((b : Int) - (a : Int)) / 8 = (((b - a) / 8 : Nat) : Int) := by omega
        have HDV := Lib.hid (And.intro hdv hdv2)
        by_cases hlr : mid - a < b - mid
        · have hlI : (mid : Int) - (a : Int) < (b : Int) - (mid : Int) := by omega
          have Q2 := Lib.hid (fun w s => HIH.out (mid - a) (by omega) a mid limit1 d4 w (Nat.le_refl _) hszd (by omega) (by omega) hl5 (.inl ⟨by omega, by omega⟩) g4 s)
          have HN := Lib.hid (fun d5 (k1 : PermIn a mid d4 d5) (k2 : SortedIn ltU a mid d5) => And.intro (k1.1.trans hszd) (And.intro (g6 d5 k1 k2).1 (show Left a0 b0 d0 (mid + 1) b d5 from fun d' j1 j2 => HLF1.out d' ((g6 d5 k1 k2).2 d' j1 j2).1 ((g6 d5 k1 k2).2 d' j1 j2).2)))
          clear hre g3 g4 g5 g6 g7 HPE hszd hdv hdv2
          go_wp2_with fail
          refine Q.out.mono ?_
          rintro e w4 ⟨rfl, s4⟩
          have S7 := Lib.hid s4
          clear s4 Q S6
          go_wp2_with fail
          refine (Q2.out _ S7.out).mono ?_
          rintro e w5 ⟨rfl, d5, k1, k2, s5⟩
          have S8 := Lib.hid s5
          have HN2 := Lib.hid (HN.out d5 k1 k2)
          clear s5 k1 k2 Q2 S7 HN
          go_wp2_with fail
          go_roundw
          case rel => exact ⟨mid + 1, b, limit1, _, ap, d5, by congr 1, rfl, rfl, rfl, rfl, by omega, by omega, by omega, by omega, .inl ⟨by omega, by omega⟩, HN2.out.1, HN2.out.2.1, HN2.out.2.2, S8.out⟩
          case measure => (simp [intOf] <;> omega)
        · have hlI : ¬ (mid : Int) - (a : Int) < (b : Int) - (mid : Int) := by omega
          have Q2 := Lib.hid (fun w s => HIH.out (b - (mid + 1)) (by omega) (mid + 1) b limit1 d4 w (Nat.le_refl _) hszd (by omega) (by omega) hl5 (.inl ⟨by omega, by omega⟩) g5 s)
          have HN := Lib.hid (fun d5 (k1 : PermIn (mid + 1) b d4 d5) (k2 : SortedIn ltU (mid + 1) b d5) => And.intro (k1.1.trans hszd) (And.intro (g7 d5 k1 k2).1 (show Left a0 b0 d0 a mid d5 from fun d' j1 j2 => HLF1.out d' ((g7 d5 k1 k2).2 d' j1 j2).1 ((g7 d5 k1 k2).2 d' j1 j2).2)))
          clear hre g3 g4 g5 g6 g7 HPE hszd hdv hdv2
          go_wp2_with fail
          refine Q.out.mono ?_
          rintro e w4 ⟨rfl, s4⟩
          have S7 := Lib.hid s4
          clear s4 Q S6
          have hcast : ((mid + 1 : Nat) : Int) = (mid : Int) + 1 := by omega
          rw [hcast] at Q2
          clear hcast
          go_wp2_with fail
          refine (Q2.out _ S7.out).mono ?_
          rintro e w5 ⟨rfl, d5, k1, k2, s5⟩
          have S8 := Lib.hid s5
          have HN2 := Lib.hid (HN.out d5 k1 k2)
          clear s5 k1 k2 Q2 S7 HN
          go_wp2_with fail
          go_roundw
          case rel => exact ⟨a, mid, limit1, _, ap, d5, rfl, rfl, rfl, rfl, rfl, by omega, by omega, by omega, by omega, .inl ⟨by omega, by omega⟩, HN2.out.1, HN2.out.2.1, HN2.out.2.2, S8.out⟩
          case measure => (simp [intOf] <;> omega)
/-- slices.Sort, of at most eighteen bytes. -/
theorem sort_calls (g n c : Nat) (d : Array UInt8) (X : List Value) (hn : d.size = n) (hs : n ≤ 18) (w : World) (s : St B w0 w (arr g d X * R)) :
    Calls Try.prog 52 #[.slice (some ⟨g, 0, none⟩) n c] w (SortP B w0 g 0 n d X R) := by
  have hlim : bitsLen n ≤ 5 ∧ LimOk 0 n (bitsLen n) true := by
    unfold LimOk
    rcases small19 hs with rfl | rfl | rfl | rfl | rfl | rfl | rfl | rfl | rfl | rfl | rfl | rfl | rfl | rfl | rfl | rfl | rfl | rfl | rfl
    all_goals decide +kernel
  have Q1 := Lib.hid (fun w => len_calls n hs w)
  have Q2 := Lib.hid (pdq_calls (B := B) (w0 := w0) (R := R) g n c X hs n 0 n (bitsLen n) d w (by omega) hn (Nat.zero_le _) (Nat.le_refl _) hlim.1 hlim.2 (.inl rfl) s)
  clear s hn hlim
  go_enter Try.func52, Try.ntmps52
  go_wp2_with fail
  refine (Q1.out _).mono ?_
  rintro e w' ⟨rfl, rfl⟩
  go_wp2_with fail
  refine Q2.out.mono ?_
  rintro e w2 ⟨rfl, d', h1, h2, s2⟩
  have S2 := Lib.hid (show ∃ d', PermIn 0 n d d' ∧ SortedIn ltU 0 n d' ∧ St B w0 w2 (arr g d' X * R) from ⟨d', h1, h2, s2⟩)
  clear h1 h2 s2 Q2
  go_wp2_with fail
  first | go_end0 | refine bodyPost_ret (results_none rfl _ _ _) rfl ?_
  exact ⟨rfl, S2.out⟩
end
end Go.Proofs.Ytjnfhppjkadlpaa.SrA
