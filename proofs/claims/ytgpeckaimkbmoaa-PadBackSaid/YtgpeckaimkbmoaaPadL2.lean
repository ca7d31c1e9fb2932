/- The law PadBack, walked. -/
import Derived.Test.YtgpeckaimkbmoaaPadW3
namespace Go.Proofs.Ytgpeckaimkbmoaa.PadL2
open Go Go.RowKit Go.Proofs.Ytgpeckaimkbmoaa Go.Proofs.Ytgpeckaimkbmoaa.Sp Go.Proofs.Ytgpeckaimkbmoaa.Reg Go.Proofs.Ytgpeckaimkbmoaa.SlW Go.Proofs.Ytgpeckaimkbmoaa.PadW

/-- A remainder as a natural number. -/
theorem mod_nat (x : Int) (y : Int) (hy : 1 ≤ y) : ∃ k : Nat, x % 256 % y = (k : Int) ∧ (k : Int) < y := by
  have h1 := Int.emod_nonneg (x % 256) (show y ≠ 0 by omega)
  have h2 := Int.emod_lt_of_pos (x % 256) (show 0 < y by omega)
  exact ⟨(x % 256 % y).toNat, by omega, by omega⟩
theorem bs_val {w : World} {v : Value} {bs : List UInt8} (h : BS w v bs) : ∃ a c, v = .slice a bs.length c ∧ BS w (.slice a bs.length c) bs := by
  obtain ⟨a, c, e, _⟩ := id h
  exact ⟨a, c, e, e ▸ h⟩
theorem bss_val {w : World} {v : Value} {bss : List (List UInt8)} (h : BSS w v bss) : ∃ a c, v = .slice a bss.length c ∧ BSS w (.slice a bss.length c) bss := by
  obtain ⟨a, c, vs, e, _⟩ := id h
  exact ⟨a, c, e, e ▸ h⟩
set_option maxHeartbeats 400000 in
set_option maxRecDepth 100000 in
theorem walkRow (a : Option Addr) (c : Nat) (bs : List UInt8) (x0 n0 o0 m0 : Int) (w : World) (h : BS w (.slice a bs.length c) bs) (_y : bs.length * 1 ≤ 140737488351232) (_wx : (Lit.int .i64 x0).wf = true) (_wn : (Lit.int .i64 n0).wf = true)
    (_wo : (Lit.int .i64 o0).wf = true) (_wm : (Lit.int .i64 m0).wf = true) :
    Calls Try.prog 13 #[.slice a bs.length c, .int .i64 x0, .int .i64 n0, .int .i64 o0, .int .i64 m0] w fun e w' => e = .returned (.bool true) ∧ Below w.heap.size w w' := by
  have HB := Lib.hid h
  clear h
  by_cases hlen : 64 < bs.length
  · go_enter Try.func13, Try.ntmps13
    go_wp2_with fail
    refine (awake_calls _).mono ?_
    rintro e w1 ⟨rfl, h1⟩
    go_wp2_with fail
    go_ret
    exact ⟨rfl, h1⟩
  · have hl64 : bs.length ≤ 64 := by omega
    clear hlen
    go_enter Try.func13, Try.ntmps13
    go_wp2_with fail
    refine (cut_yes a c bs w HB.out hl64).mono ?_
    have hfl : (bs ++ List.replicate (64 - bs.length) (0 : UInt8)).length = 64 := by simp; omega
    have hp := pieces_len _ hfl
    have hc := cat_pieces _ hfl
    have hp4 : ((List.range 4).map (piece (bs ++ List.replicate (64 - bs.length) (0 : UInt8)))).length = 4 := by simp
    generalize (List.range 4).map (piece (bs ++ List.replicate (64 - bs.length) (0 : UInt8))) = bss at hp hc hp4 ⊢
    rintro e w1 ⟨v1, rfl, h1, b1⟩
    obtain ⟨A, cA, rfl, hbss⟩ := bss_val b1
    rw [hp4] at hbss ⊢
    have HP4 := Lib.hid hp4
    have HP := Lib.hid hp
    have HC := Lib.hid hc
    have H1 := Lib.hid h1
    have HBSS := Lib.hid hbss
    clear hp hc hp4 h1 hbss b1 hfl
    go_wp2_with fail
    go_loop [13] (fun i => ∃ k : Nat, k ≤ 4 ∧ i = .int .i64 k) (fun i => 4 - (intOf i).toNat)
    case atStart => exact ⟨0, by omega, rfl⟩
    case round =>
      obtain ⟨k, hk, rfl⟩ := hrel
      by_cases hlt : k < 4
      · obtain ⟨-, -, -, -, vs, hr, hlv, hb⟩ := HBSS.out.open'
        obtain ⟨u, hu, a2, c2, rfl, -⟩ := hb k (by rw [HP4.out]; exact hlt)
        obtain ⟨b, off, rfl, hc⟩ := hr.at (by have := HP4.out; rintro rfl; rw [List.length_nil] at hlv; omega)
        have hcell := hc k _ hu
        have e16 : (bss[k]'(by rw [HP4.out]; exact hlt)).length = 16 := HP.out _ (List.getElem_mem _)
        rw [e16] at hcell
        clear hr hlv hb hc hu e16
        go_wp2_with fail
        go_round
        case rel => exact ⟨k + 1, by omega, by go_num⟩
        case measure => simp [intOf]; omega
      · obtain rfl : k = 4 := by omega
        clear hlt hk
        go_wp2_with fail
        have hj := join_yes A cA bss bs.length w1 (by rw [HP4.out]; exact HBSS.out) HP4.out hl64 HP.out
        rw [HP4.out, HC.out, List.take_left' rfl] at hj
        refine hj.mono ?_
        rintro e w2 ⟨v2, rfl, h2, b2⟩
        obtain ⟨a2, c2, rfl, hb2⟩ := bs_val b2
        have HB2 := Lib.hid hb2
        have H2 := Lib.hid (H1.out.trans h2)
        clear hj b2 hb2 h2 H1 HP HP4 HC HBSS
        have k1 := and_m8 x0
        have k2 := and_m8 n0
        have k3 := and_m8 o0
        have k4 := and_m8 m0
        obtain ⟨x, hx, hx2⟩ := mod_nat x0 ((bs.length : Int) + 1) (by omega)
        obtain ⟨n, hn, hn2⟩ := mod_nat n0 ((bs.length : Int) - x + 1) (by omega)
        obtain ⟨o, ho, ho2⟩ := mod_nat o0 ((n : Int) + 1) (by omega)
        obtain ⟨m, hm, hm2⟩ := mod_nat m0 ((n : Int) - o + 1) (by omega)
        go_wp2_with fail
        simp only [hx, hn, ho, hm]
        clear k1 k2 k3 k4 hx hn ho hm
        have hP : ((bs.drop x).take n).length = n := by simp; omega
        have hQ : (((bs.drop x).take n).drop o).take m = (bs.drop (x + o)).take m := by
          rw [List.drop_take, List.drop_drop, List.take_take, Nat.min_eq_left (by omega)]
        have hbw2 : BS w2 (.slice a bs.length c) bs := HB.out.below H2.out
        refine (part_yes _ _ bs x n _ hbw2 (by omega) (by omega) (by omega)).mono ?_
        have hsubx : BS w2 (.slice (subA a c x 1) n (c - x)) ((bs.drop x).take n) := by
          have := hbw2.sub x (x + n) (by omega) (by omega)
          simpa using this
        have hcap := hbw2.rd.2.1
        generalize (bs.drop x).take n = P at hP hQ hsubx ⊢
        rintro e w3 ⟨v3, rfl, h3, b3⟩
        obtain ⟨a3, c3, rfl, hb3⟩ := bs_val b3
        have HB3 := Lib.hid hb3
        have HQ := Lib.hid hQ
        have HSX := Lib.hid hsubx
        have HPL := Lib.hid hP
        have H3 := Lib.hid h3
        clear b3 hb3 h3 hQ hsubx hbw2 hP
        go_wp2_with fail
        have hn2' : o + m ≤ n := by omega

        refine (part_yes _ _ P o m _ HB3.out (by rw [HPL.out]; omega) (by rw [HPL.out]; omega) (by rw [HPL.out]; omega)).mono ?_
        rw [HQ.out]
        generalize hR : (bs.drop (x + o)).take m = R
        have HR := Lib.hid hR
        clear hR
        rintro e w4 ⟨v4, rfl, h4, b4⟩
        obtain ⟨a4, c4, rfl, hb4⟩ := bs_val b4
        have HB4 := Lib.hid hb4
        have H4 := Lib.hid h4
        clear b4 hb4 h4
        go_wp2_with fail
        rw [show (x : Int) + (o : Int) = ((x + o : Nat) : Int) from rfl]
        refine (part_yes _ _ bs (x + o) m _ (((HB.out.below H2.out).below H3.out).below H4.out) (by omega) (by omega) (by omega)).mono ?_
        rw [HR.out]
        rintro e w5 ⟨v5, rfl, h5, b5⟩
        obtain ⟨a5, c5, rfl, hb5⟩ := bs_val b5
        have HB5 := Lib.hid hb5
        have H5 := Lib.hid h5
        clear b5 hb5 h5 HQ
        go_wp2_with fail
        have g3 : ∀ w', Add w5 w' → BS w' (.slice a3 P.length c3) P := fun w' ha => ((HB3.out.below H4.out).below H5.out).below ha
        have g4 : ∀ w', Add w5 w' → BS w' (.slice a4 R.length c4) R := fun w' ha => (HB4.out.below H5.out).below ha
        have g5 : ∀ w', Add w5 w' → BS w' (.slice a5 R.length c5) R := fun w' ha => HB5.out.below ha
        have g0 : ∀ w', Add w5 w' → BS w' (.slice a bs.length c) bs := fun w' ha => ((((HB.out.below H2.out).below H3.out).below H4.out).below H5.out).below ha
        have g2 : ∀ w', Add w5 w' → BS w' (.slice a2 bs.length c2) bs := fun w' ha => (((HB2.out.below H3.out).below H4.out).below H5.out).below ha
        have gx : ∀ w', Add w5 w' → BS w' (.slice (subA a c x 1) n (c - x)) P := fun w' ha => (((HSX.out.below H3.out).below H4.out).below H5.out).below ha
        have hall : Add w w5 := ((H2.out.trans H3.out).trans H4.out).trans H5.out
        have hsl : ∀ w, (Instr.sliceAt 22 (.slice a bs.length c) (some (.int .i64 ↑x)) (some (.int .i64 (↑x + ↑n))) none).run Try.prog w = .ok (.slice (subA a c x 1) n (c - x)) w := fun w => by
          have := run_slice_sl tB w a bs.length c (some (.int .i64 ↑x)) (some (.int .i64 ↑(x + n))) x (x + n) (.inr ⟨_, rfl⟩) (.inr ⟨_, rfl⟩) (by omega) (by omega)
          simpa [subA] using this
        refine wp_region_rs mixed (by kernel_rfl) ?_
        refine RSl.exact (.bool true) rfl rfl rfl rfl (fun _ _ => rfl) ?_
        refine RSl.exact (.bool true) rfl rfl rfl rfl (fun _ _ => rfl) ?_
        refine RSl.exact (.slice a2 bs.length c2) rfl rfl rfl rfl (fun _ _ => rfl) ?_
        refine RSl.exact (str bs) rfl rfl rfl rfl (fun w' ha => exec_convert rfl (run_str Try.underlying22 Try.underlying5 Try.underlying9 (g2 w' ha))) ?_
        refine RSl.exact (.slice a bs.length c) rfl rfl rfl rfl (fun _ _ => rfl) ?_
        refine RSl.exact (str bs) rfl rfl rfl rfl (fun w' ha => exec_convert rfl (run_str Try.underlying22 Try.underlying5 Try.underlying9 (g0 w' ha))) ?_
        refine RSl.exact (.bool true) rfl rfl rfl rfl (fun w' ha => by simp [rho, upd, Spec.val, execOp, go_sem]) ?_
        refine RSl.exact (.bool true) rfl rfl rfl rfl (fun _ _ => rfl) ?_
        refine RSl.exact (.bool true) rfl rfl rfl rfl (fun _ _ => rfl) ?_
        refine RSl.exact (.bool true) rfl rfl rfl rfl (fun _ _ => rfl) ?_
        refine RSl.exact (.bool true) rfl rfl rfl rfl (fun _ _ => rfl) ?_
        refine RSl.exact (.bool true) rfl rfl rfl rfl (fun _ _ => rfl) ?_
        refine RSl.exact (.bool true) rfl rfl rfl rfl (fun _ _ => rfl) ?_
        refine RSl.exact (.bool true) rfl rfl rfl rfl (fun _ _ => rfl) ?_
        refine RSl.exact (.bool true) rfl rfl rfl rfl (fun _ _ => rfl) ?_
        refine RSl.exact (.bool true) rfl rfl rfl rfl (fun _ _ => rfl) ?_
        refine RSl.exact (.bool true) rfl rfl rfl rfl (fun _ _ => rfl) ?_
        refine RSl.exact (.bool true) rfl rfl rfl rfl (fun _ _ => rfl) ?_
        refine RSl.exact (.slice a4 R.length c4) rfl rfl rfl rfl (fun _ _ => rfl) ?_
        refine RSl.exact (str R) rfl rfl rfl rfl (fun w' ha => exec_convert rfl (run_str Try.underlying22 Try.underlying5 Try.underlying9 (g4 w' ha))) ?_
        refine RSl.exact (.slice a5 R.length c5) rfl rfl rfl rfl (fun _ _ => rfl) ?_
        refine RSl.exact (str R) rfl rfl rfl rfl (fun w' ha => exec_convert rfl (run_str Try.underlying22 Try.underlying5 Try.underlying9 (g5 w' ha))) ?_
        refine RSl.exact (.bool true) rfl rfl rfl rfl (fun w' ha => by simp [rho, upd, Spec.val, execOp, go_sem]) ?_
        refine RSl.exact (.bool true) rfl rfl rfl rfl (fun _ _ => rfl) ?_
        refine RSl.exact (.bool true) rfl rfl rfl rfl (fun _ _ => rfl) ?_
        refine RSl.exact (.slice a3 P.length c3) rfl rfl rfl rfl (fun _ _ => rfl) ?_
        refine RSl.exact (str P) rfl rfl rfl rfl (fun w' ha => exec_convert rfl (run_str Try.underlying22 Try.underlying5 Try.underlying9 (g3 w' ha))) ?_
        refine RSl.exact (.slice a bs.length c) rfl rfl rfl rfl (fun _ _ => rfl) ?_
        refine RSl.exact (.int .i64 ↑x) rfl rfl rfl rfl (fun _ _ => rfl) ?_
        refine RSl.exact (.int .i64 ↑x) rfl rfl rfl rfl (fun _ _ => rfl) ?_
        refine RSl.exact (.int .i64 ↑n) rfl rfl rfl rfl (fun _ _ => rfl) ?_
        refine RSl.exact (.int .i64 (↑x + ↑n)) rfl rfl rfl rfl (fun w' ha => by simp [rho, upd, Spec.val, execOp, go_sem]; rw [IntKind.wrap_i64]; omega) ?_
        refine RSl.exact (.slice (subA a c x 1) n (c - x)) rfl rfl rfl rfl (fun w' ha => exec_slice rfl (hsl w')) ?_
        refine RSl.exact (str P) rfl rfl rfl rfl (fun w' ha => exec_convert rfl (run_str Try.underlying22 Try.underlying5 Try.underlying9 (gx w' ha))) ?_
        refine RSl.exact (.bool true) rfl rfl rfl rfl (fun w' ha => by simp [rho, upd, Spec.val, execOp, go_sem]) ?_
        refine RSl.exact (.bool true) rfl rfl rfl rfl (fun _ _ => rfl) ?_
        refine RSl.exact (.bool true) rfl rfl rfl rfl (fun _ _ => rfl) ?_
        refine RSl.callx (.bool true) _ [] [] _ rfl rfl rfl rfl rfl (fun _ => rfl) (fun w' ha => awake_calls w') ?_
        refine RSl.exact (.bool true) rfl rfl rfl rfl (fun _ _ => rfl) ?_
        refine RSl.exact (.bool true) rfl rfl rfl rfl (fun _ _ => rfl) ?_
        refine RSl.nil fun a' w' ha hd hs hh => ?_
        obtain ⟨tm, df⟩ := a'
        have hd : df = [] := hd
        subst hd
        have h4 : tm.getD 10 undef = .bool true := hh 10 (by simp)
        clear hh
        go_wp2_with fail
        refine bodyPost_ret (results_tmp rfl _ _ _) rfl ?_
        rw [h4]
        exact ⟨rfl, hall.trans ha⟩
end Go.Proofs.Ytgpeckaimkbmoaa.PadL2
