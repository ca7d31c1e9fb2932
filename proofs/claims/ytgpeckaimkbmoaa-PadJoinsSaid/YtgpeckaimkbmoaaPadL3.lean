/- The law PadJoins, walked. -/
import Derived.Test.YtgpeckaimkbmoaaPadW4
import Derived.Deep.DeepCutAuto
namespace Go.Proofs.Ytgpeckaimkbmoaa.PadL3
open Go Go.RowKit Go.Proofs.Ytgpeckaimkbmoaa Go.Proofs.Ytgpeckaimkbmoaa.Sp Go.Proofs.Ytgpeckaimkbmoaa.Reg Go.Proofs.Ytgpeckaimkbmoaa.SlW Go.Proofs.Ytgpeckaimkbmoaa.PadW

def goodN (bss : List (List UInt8)) (n : Int) : Bool := decide (bss.length = 4) && (decide (0 ≤ n) && decide (n ≤ 64))
/-- So far as the loop has come: good, and the first k of sixteen bytes. -/
def goodK (bss : List (List UInt8)) (n : Int) (k : Nat) : Bool := goodN bss n && (bss.take k).all fun b => (b.length : Int) == 16
theorem goodK_succ (bss : List (List UInt8)) (n : Int) (k : Nat) (h : k < bss.length) : goodK bss n (k + 1) = (goodK bss n k && ((bss[k].length : Int) == 16)) := by
  unfold goodK
  rw [List.take_succ_eq_append_getElem h, List.all_append]
  simp [Bool.and_assoc]
theorem goodK_all (bss : List (List UInt8)) (n : Int) : goodK bss n bss.length = true ↔ (bss.length = 4 ∧ 0 ≤ n ∧ n ≤ 64 ∧ ∀ b ∈ bss, b.length = 16) := by
  unfold goodK goodN
  rw [List.take_length]
  simp only [Bool.and_eq_true, decide_eq_true_eq, List.all_eq_true, beq_iff_eq]
  constructor
  · rintro ⟨⟨h1, h2, h3⟩, h4⟩; exact ⟨h1, h2, h3, fun b hb => by have := h4 b hb; omega⟩
  · rintro ⟨h1, h2, h3, h4⟩; exact ⟨⟨h1, h2, h3⟩, fun b hb => by rw [h4 b hb]; rfl⟩
set_option maxHeartbeats 1600000 in
set_option maxRecDepth 100000 in
theorem walkRow (A : Option Addr) (c : Nat) (bss : List (List UInt8)) (n : Int) (w : World) (h : BSS w (.slice A bss.length c) bss) (wn : (Lit.int .i64 n).wf = true) :
    Calls Try.prog 8 #[.slice A bss.length c, .int .i64 n] w fun e w' => e = .returned (.bool true) ∧ Below w.heap.size w w' := by
  have hn : -9223372036854775808 ≤ n ∧ n ≤ 9223372036854775807 := by simpa [Lit.wf, IntKind.min, IntKind.max, IntKind.signed, IntKind.bits] using wn
  have HB := Lib.hid h
  have HN := Lib.hid hn
  clear h wn hn
  by_cases hlen : 20 < bss.length
  · go_enter Try.func8, Try.ntmps8
    go_wp2_with fail
    refine (awake_calls _).mono ?_
    rintro e w1 ⟨rfl, h1⟩
    go_wp2_with fail
    go_ret
    exact ⟨rfl, h1⟩
  · have hl : bss.length ≤ 20 := by omega
    clear hlen
    -- the first reckoning of 'good', whatever it is
    have e1 : ((bss.length : Int) == 4) = decide (bss.length = 4) := by rw [Bool.eq_iff_iff, beq_iff_eq, decide_eq_true_eq]; omega
    go_enter Try.func8, Try.ntmps8
    go_upto_region 3 with fail
    go_cut [0, 5] (fun v0 v5 wx => v0 = .slice A bss.length c ∧ v5 = .bool (goodN bss n) ∧ w = wx)
    case first =>
      go_wp2_with fail
      all_goals
        go_meet
        exact ⟨by first | rfl | (simp; omega), congrArg Value.bool (by rw [Bool.eq_iff_iff]; simp [goodN]; omega), rfl⟩
    case rest =>
    obtain ⟨rfl, rfl, rfl⟩ := hcut
    clear e1
    go_wp2_with fail
    go_loopw [5, 6, 7] (fun v5 v6 v7 wr => ∃ k : Nat, k ≤ bss.length ∧ v7 = .int .i64 k ∧ v5 = .bool (goodK bss n k) ∧ v6 = str (cat bss k) ∧ catLen bss k ≤ 40 * k ∧ Add w wr) (fun _ _ v7 _ => bss.length - (intOf v7).toNat)
    case atStart => exact ⟨0, by omega, rfl, congrArg Value.bool (by simp [goodK]), rfl, by rw [catLen_zero]; omega, Add.refl w⟩
    case round =>
      obtain ⟨k, hk, rfl, rfl, rfl, hcl, ha⟩ := hrel
      have HA := Lib.hid ha
      have HCL := Lib.hid hcl
      clear ha hcl
      by_cases hlt : k < bss.length
      · obtain ⟨-, -, -, -, vs, hr, hlv, hb⟩ := (HB.out.below HA.out).open'
        obtain ⟨u, hu, hbu⟩ := hb k hlt
        obtain ⟨a2, c2, rfl, hbu2⟩ : ∃ a c, u = .slice a bss[k].length c ∧ BS _ (.slice a bss[k].length c) bss[k] := by
          obtain ⟨a, c, e, _⟩ := id hbu
          exact ⟨a, c, e, e ▸ hbu⟩
        obtain ⟨b, off, rfl, hc⟩ := hr.at (by rintro rfl; rw [List.length_nil] at hlv; omega)
        have hcell := hc k _ hu
        have hs := run_str (P := Try.prog) Try.underlying22 Try.underlying5 Try.underlying9 hbu2
        have HG := Lib.hid (goodK_succ bss n k hlt)
        have HC := Lib.hid (cat_succ bss k hlt)
        have HCS := Lib.hid (catLen_succ bss k hlt)
        clear hr hlv hb hu hbu hbu2 hc
        by_cases h40 : 40 < bss[k].length
        · go_wp2_with fail
          refine (awake_calls _).mono ?_
          rintro e w1 ⟨rfl, h1⟩
          have H1 := Lib.hid (HA.out.trans h1)
          clear h1
          go_wp2_with fail
          go_ret
          exact ⟨rfl, H1.out⟩
        · have hsz : (cat bss k).length + bss[k].length ≤ 100000 := by have := HCL.out; unfold catLen at this; omega
          have hcl2 : catLen bss (k + 1) ≤ 40 * (k + 1) := by rw [HCS.out]; have := HCL.out; omega
          have HCL2 := Lib.hid hcl2
          have htxt : ∀ x y : List UInt8, (Value.string (⟨x.toArray⟩ ++ ⟨y.toArray⟩)) = str (x ++ y) := fun x y => congrArg Value.string (ByteArray.mk_append_mk x y)
          have HTXT := Lib.hid htxt
          clear hcl2 htxt HCL HCS
          cases hgk : goodK bss n k with
          | true =>
            rw [hgk] at HG
            have HG' := HG
            clear hgk HG
            go_wp2_with fail
            go_roundw
            case rel => exact ⟨k + 1, by omega, by go_num, by rw [HG'.out]; rfl, by rw [HC.out, HTXT.out], HCL2.out, HA.out⟩
            case measure => simp [intOf]; omega
          | false =>
            rw [hgk] at HG
            have HG' := HG
            clear hgk HG
            go_wp2_with fail
            go_roundw
            case rel => exact ⟨k + 1, by omega, by go_num, by rw [HG'.out]; rfl, by rw [HC.out, HTXT.out], HCL2.out, HA.out⟩
            case measure => simp [intOf]; omega
      · obtain rfl : k = bss.length := by omega
        clear hlt hk
        have HC4 := Lib.hid (goodK_all bss n)
        have hbw := HB.out.below HA.out
        by_cases hgood : bss.length = 4 ∧ 0 ≤ n ∧ n ≤ 64 ∧ ∀ b ∈ bss, b.length = 16
        · obtain ⟨g4, g0, g64, g16⟩ := id hgood
          have hgk := HC4.out.2 hgood
          obtain ⟨m, rfl⟩ := Int.eq_ofNat_of_zero_le g0
          have hlenc : (cat bss bss.length).length = 64 := by
            have := cat_all16 bss g16 bss.length (Nat.le_refl _)
            unfold catLen at this
            omega
          rw [hgk]
          have hj := join_yes A c bss m wr hbw g4 (by omega) g16
          have HJ := Lib.hid hj
          have HL := Lib.hid hlenc
          have hm : m ≤ 64 := by omega
          have hsl := fun w => run_str_take (P := Try.prog) Try.underlying9 w (cat bss bss.length) .i64 m (by omega)
          clear hj hlenc g16 g0 g64 g4 hgood hgk HC4 HCL
          generalize (cat bss bss.length).take m = T at HJ hsl
          go_wp2_with fail
          refine HJ.out.mono ?_
          rintro e w2 ⟨v2, rfl, h2, b2⟩
          obtain ⟨a2, c2, rfl, hb2⟩ := bs_val b2
          have HB2 := Lib.hid hb2
          have H2 := Lib.hid (HA.out.trans h2)
          clear b2 hb2 h2 HJ
          go_wp2_with fail
          have g2 : ∀ w', Add w2 w' → BS w' (.slice a2 T.length c2) T := fun w' ha => HB2.out.below ha
          refine wp_region_rs mixed (by kernel_rfl) ?_
          refine RSl.exact (.bool true) rfl rfl rfl rfl (fun _ _ => rfl) ?_
          refine RSl.exact (.bool true) rfl rfl rfl rfl (fun _ _ => rfl) ?_
          refine RSl.exact (.bool true) rfl rfl rfl rfl (fun w' ha => by simp [rho, upd, Spec.val, execOp, go_sem]) ?_
          refine RSl.exact (.bool true) rfl rfl rfl rfl (fun _ _ => rfl) ?_
          refine RSl.exact (.bool true) rfl rfl rfl rfl (fun _ _ => rfl) ?_
          refine RSl.exact (.bool true) rfl rfl rfl rfl (fun _ _ => rfl) ?_
          refine RSl.exact (.slice a2 T.length c2) rfl rfl rfl rfl (fun _ _ => rfl) ?_
          refine RSl.exact (str T) rfl rfl rfl rfl (fun w' ha => exec_convert rfl (run_str Try.underlying22 Try.underlying5 Try.underlying9 (g2 w' ha))) ?_
          refine RSl.exact (str (cat bss bss.length)) rfl rfl rfl rfl (fun _ _ => rfl) ?_
          refine RSl.exact (.int .i64 ↑m) rfl rfl rfl rfl (fun _ _ => rfl) ?_
          refine RSl.exact (str T) rfl rfl rfl rfl (fun w' ha => exec_slice rfl (hsl w')) ?_
          refine RSl.exact (.bool true) rfl rfl rfl rfl (fun w' ha => by simp [rho, upd, Spec.val, execOp, go_sem]) ?_
          refine RSl.exact (.bool true) rfl rfl rfl rfl (fun _ _ => rfl) ?_
          refine RSl.exact (.bool true) rfl rfl rfl rfl (fun _ _ => rfl) ?_
          refine RSl.skip rfl rfl rfl ?_
          refine RSl.skip rfl rfl rfl ?_
          refine RSl.skip rfl rfl rfl ?_
          refine RSl.skip rfl rfl rfl ?_
          refine RSl.skip rfl rfl rfl ?_
          refine RSl.skip rfl rfl rfl ?_
          refine RSl.skip rfl rfl rfl ?_
          refine RSl.exact ((Value.bool true)) rfl rfl rfl rfl (fun _ _ => rfl) ?_
          refine RSl.exact ((Value.bool true)) rfl rfl rfl rfl (fun _ _ => rfl) ?_
          refine RSl.exact ((Value.bool true)) rfl rfl rfl rfl (fun _ _ => rfl) ?_
          refine RSl.callx (.bool true) _ [] [] _ rfl rfl rfl rfl rfl (fun _ => rfl) (fun w' ha => awake_calls w') ?_
          refine RSl.exact (.bool true) rfl rfl rfl rfl (fun _ _ => rfl) ?_
          refine RSl.exact (.bool true) rfl rfl rfl rfl (fun _ _ => rfl) ?_
          refine RSl.nil fun a' w' ha hd hs hh => ?_
          obtain ⟨tm, df⟩ := a'
          have hd : df = [] := hd
          subst hd
          have h4 : tm.getD 4 undef = .bool true := hh 4 (by simp)
          clear hh
          go_wp2_with fail
          refine bodyPost_ret (results_tmp rfl _ _ _) rfl ?_
          rw [h4]
          exact ⟨rfl, H2.out.trans ha⟩
        · have hgk : goodK bss n bss.length = false := by
            cases hx : goodK bss n bss.length with
            | false => rfl
            | true => exact absurd (HC4.out.1 hx) hgood
          rw [hgk]
          have HJ := Lib.hid (join_no A c bss n wr hbw HN.out.1 HN.out.2 hgood)
          clear hgood hgk HC4 HCL
          go_wp2_with fail
          refine HJ.out.mono ?_
          rintro e w2 ⟨rfl, h2⟩
          have H2 := Lib.hid (HA.out.trans h2)
          clear h2 HJ
          go_wp2_with fail
          refine wp_region_rs mixed (by kernel_rfl) ?_
          refine RSl.exact (.bool false) rfl rfl rfl rfl (fun _ _ => rfl) ?_
          refine RSl.exact (.bool false) rfl rfl rfl rfl (fun _ _ => rfl) ?_
          refine RSl.exact (.bool true) rfl rfl rfl rfl (fun w' ha => by simp [rho, upd, Spec.val, execOp, go_sem]) ?_
          refine RSl.exact (.bool true) rfl rfl rfl rfl (fun _ _ => rfl) ?_
          refine RSl.exact (.bool false) rfl rfl rfl rfl (fun _ _ => rfl) ?_
          refine RSl.exact (.bool false) rfl rfl rfl rfl (fun _ _ => rfl) ?_
          refine RSl.skip rfl rfl rfl ?_
          refine RSl.skip rfl rfl rfl ?_
          refine RSl.skip rfl rfl rfl ?_
          refine RSl.skip rfl rfl rfl ?_
          refine RSl.skip rfl rfl rfl ?_
          refine RSl.skip rfl rfl rfl ?_
          refine RSl.exact ((Value.bool false)) rfl rfl rfl rfl (fun _ _ => rfl) ?_
          refine RSl.exact ((Value.bool false)) rfl rfl rfl rfl (fun _ _ => rfl) ?_
          refine RSl.exact (.bool false) rfl rfl rfl rfl (fun _ _ => rfl) ?_
          refine RSl.exact (.bool true) rfl rfl rfl rfl (fun w' ha => by simp [rho, upd, Spec.val, execOp, go_sem]) ?_
          refine RSl.exact (.bool true) rfl rfl rfl rfl (fun _ _ => rfl) ?_
          refine RSl.exact (.slice none 0 0) rfl rfl rfl rfl (fun _ _ => rfl) ?_
          refine RSl.exact (.int .i64 0) rfl rfl rfl rfl (fun w' ha => by simp [rho, upd, Spec.val, execOp, go_sem]) ?_
          refine RSl.exact (.bool true) rfl rfl rfl rfl (fun w' ha => by simp [rho, upd, Spec.val, execOp, go_sem]) ?_
          refine RSl.exact (.bool true) rfl rfl rfl rfl (fun _ _ => rfl) ?_
          refine RSl.exact (.bool true) rfl rfl rfl rfl (fun _ _ => rfl) ?_
          refine RSl.exact (.bool true) rfl rfl rfl rfl (fun _ _ => rfl) ?_
          refine RSl.exact (.bool true) rfl rfl rfl rfl (fun _ _ => rfl) ?_
          refine RSl.callx (.bool true) _ [] [] _ rfl rfl rfl rfl rfl (fun _ => rfl) (fun w' ha => awake_calls w') ?_
          refine RSl.exact (.bool true) rfl rfl rfl rfl (fun _ _ => rfl) ?_
          refine RSl.exact (.bool true) rfl rfl rfl rfl (fun _ _ => rfl) ?_
          refine RSl.nil fun a' w' ha hd hs hh => ?_
          obtain ⟨tm, df⟩ := a'
          have hd : df = [] := hd
          subst hd
          have h4 : tm.getD 4 undef = .bool true := hh 4 (by simp)
          clear hh
          go_wp2_with fail
          refine bodyPost_ret (results_tmp rfl _ _ _) rfl ?_
          rw [h4]
          exact ⟨rfl, H2.out.trans ha⟩
end Go.Proofs.Ytgpeckaimkbmoaa.PadL3
