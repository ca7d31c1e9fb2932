/- The law PadParts, walked. -/
import Derived.Test.YtgpeckaimkbmoaaPadW
namespace Go.Proofs.Ytgpeckaimkbmoaa.PadL1
open Go Go.RowKit Go.Proofs.Ytgpeckaimkbmoaa Go.Proofs.Ytgpeckaimkbmoaa.Sp Go.Proofs.Ytgpeckaimkbmoaa.Reg Go.Proofs.Ytgpeckaimkbmoaa.SlW Go.Proofs.Ytgpeckaimkbmoaa.PadW

theorem mod_in (x y : Int) (hy : 1 ≤ y) : 0 ≤ x % 65536 % y ∧ x % 65536 % y < y :=
  ⟨Int.emod_nonneg _ (by omega), Int.emod_lt_of_pos _ (by omega)⟩
set_option maxHeartbeats 1600000 in
set_option maxRecDepth 100000 in
theorem walkRow (a : Option Addr) (c : Nat) (bs : List UInt8) (x0 y0 : Int) (w : World) (h : BS w (.slice a bs.length c) bs) (_y : bs.length * 1 ≤ 140737488351232) (wx : (Lit.int .i64 x0).wf = true) (wy : (Lit.int .i64 y0).wf = true) :
    Calls Try.prog 7 #[.slice a bs.length c, .int .i64 x0, .int .i64 y0] w fun e w' => e = .returned (.bool true) ∧ Below w.heap.size w w' := by
  have hx0 : -9223372036854775808 ≤ x0 ∧ x0 ≤ 9223372036854775807 := by simpa [Lit.wf, IntKind.min, IntKind.max, IntKind.signed, IntKind.bits] using wx
  have hy0 : -9223372036854775808 ≤ y0 ∧ y0 ≤ 9223372036854775807 := by simpa [Lit.wf, IntKind.min, IntKind.max, IntKind.signed, IntKind.bits] using wy
  have HB := Lib.hid h
  clear h wx wy _y
  by_cases hlen : 300 < bs.length
  · go_enter Try.func7, Try.ntmps7
    go_wp2_with fail
    refine (awake_calls _).mono ?_
    rintro e w1 ⟨rfl, h1⟩
    go_wp2_with fail
    go_ret
    exact ⟨rfl, h1⟩
  · go_enter Try.func7, Try.ntmps7
    go_wp2_with fail
    go_loopw [1, 2, 7] (fun v1 v2 v7 wr => ∃ (x y : Int) (k : Nat), k ≤ 2 ∧ v7 = .int .i64 k ∧ v1 = .int .i64 x ∧ v2 = .int .i64 y ∧ -9223372036854775808 ≤ x ∧ x ≤ 9223372036854775807 ∧ -9223372036854775808 ≤ y ∧ y ≤ 9223372036854775807 ∧ Add w wr) (fun _ _ v7 _ => 2 - (intOf v7).toNat)
    case atStart => exact ⟨x0, y0, 0, by omega, rfl, rfl, rfl, hx0.1, hx0.2, hy0.1, hy0.2, Add.refl w⟩
    case round =>
      clear hx0 hy0
      obtain ⟨x, y, k, hk, rfl, rfl, rfl, hx1, hx2, hy1, hy2, ha⟩ := hrel
      have HA := Lib.hid ha
      clear ha
      by_cases hlt : k < 2
      · have m1 := and_m16 x
        have m2 := and_m16 y
        by_cases hg : 0 ≤ x ∧ 0 ≤ y ∧ x ≤ bs.length ∧ y ≤ bs.length - x
        · obtain ⟨i, rfl⟩ : ∃ i : Nat, x = (i : Int) := ⟨x.toNat, by omega⟩
          obtain ⟨m, rfl⟩ : ∃ i : Nat, y = (i : Int) := ⟨y.toNat, by omega⟩
          have hi : i ≤ bs.length := by omega
          have hm : m ≤ bs.length - i := by omega
          have hm2 : (m : Int) ≤ bs.length - i := by omega
          clear hg
          have b1 := mod_in (i : Int) ((bs.length : Int) + 1) (by omega)
          have b2 := mod_in (m : Int) ((bs.length : Int) - (i : Int) % 65536 % ((bs.length : Int) + 1) + 1) (by omega)
          have hsl : ∀ w, (Instr.sliceAt 22 (.slice a bs.length c) (some (.int .i64 ↑i)) (some (.int .i64 (↑i + ↑m))) none).run Try.prog w = .ok (.slice (subA a c i 1) m (c - i)) w := fun w => by
            have hc := HB.out.rd.2.1
            have := run_slice_sl tB w a bs.length c (some (.int .i64 ↑i)) (some (.int .i64 ↑(i + m))) i (i + m) (.inr ⟨_, rfl⟩) (.inr ⟨_, rfl⟩) (by omega) (by omega)
            simpa [subA] using this
          go_wp2_with fail
          refine (part_yes _ _ bs i m _ (HB.out.below HA.out) (by omega) hi hm).mono ?_
          rintro e w1 ⟨v1, rfl, h1, bb1⟩
          have hbs : BS w1 (.slice (subA a c i 1) m (c - i)) ((bs.drop i).take m) := by
            have := ((HB.out.below HA.out).below h1).sub i (i + m) (by omega) (by omega)
            simpa using this
          have hlen2 : ((bs.drop i).take m).length = m := by simp; omega
          generalize (bs.drop i).take m = cs at bb1 hbs hlen2
          obtain ⟨a1, c1, rfl, hb1⟩ : ∃ a' c', v1 = .slice a' m c' ∧ BS w1 (.slice a' m c') cs := by
            obtain ⟨a', c', e, _⟩ := id bb1
            rw [hlen2] at e
            exact ⟨a', c', e, e ▸ bb1⟩
          have e1 : (convert 22 9 (.slice a1 m c1)).run Try.prog w1 = .ok (str cs) w1 := run_str Try.underlying22 Try.underlying5 Try.underlying9 hb1
          have e2 : (convert 22 9 (.slice (subA a c i 1) m (c - i))).run Try.prog w1 = .ok (str cs) w1 := run_str Try.underlying22 Try.underlying5 Try.underlying9 hbs
          have H1 := Lib.hid (HA.out.trans h1)
          clear h1 bb1 hbs hlen2 hb1 HA
          go_wp2_with fail
          go_roundw
          case rel => exact ⟨_, _, k + 1, by omega, by go_num, rfl, rfl, by omega, by omega, by omega, by omega, H1.out⟩
          case measure => simp [intOf]; omega
        · have b1 := mod_in x ((bs.length : Int) + 1) (by omega)
          have b2 := mod_in y ((bs.length : Int) - x % 65536 % ((bs.length : Int) + 1) + 1) (by omega)
          go_wp2_with fail
          refine (part_no _ _ _ x y _ (by unfold maxLen; omega) hx1 hx2 hg).mono ?_
          rintro e w1 ⟨rfl, h1⟩
          have H1 := Lib.hid (HA.out.trans h1)
          have e1 : (convert 22 9 (.slice none 0 0)).run Try.prog w1 = .ok (str []) w1 := run_str Try.underlying22 Try.underlying5 Try.underlying9 (BS.nil w1)
          clear HA h1
          have hg' : x < 0 ∨ (0 ≤ x ∧ y < 0) ∨ (0 ≤ x ∧ 0 ≤ y ∧ (bs.length : Int) < x) ∨ (0 ≤ x ∧ 0 ≤ y ∧ x ≤ bs.length ∧ (bs.length : Int) - x < y) := by omega
          clear hg
          rcases hg' with hg | hg | hg | hg
          · have hd : decide (0 ≤ x) = false := by simp; omega
            go_wp2_with fail
            go_roundw
            case rel => exact ⟨_, _, k + 1, by omega, by go_num, rfl, rfl, by omega, by omega, by omega, by omega, H1.out⟩
            case measure => simp [intOf]; omega
          · obtain ⟨g1, g2⟩ := hg
            go_wp2_with fail
            go_roundw
            case rel => exact ⟨_, _, k + 1, by omega, by go_num, rfl, rfl, by omega, by omega, by omega, by omega, H1.out⟩
            case measure => simp [intOf]; omega
          · obtain ⟨g1, g2, g3⟩ := hg
            go_wp2_with fail
            go_roundw
            case rel => exact ⟨_, _, k + 1, by omega, by go_num, rfl, rfl, by omega, by omega, by omega, by omega, H1.out⟩
            case measure => simp [intOf]; omega
          · obtain ⟨g1, g2, g3, g4⟩ := hg
            go_wp2_with fail
            go_roundw
            case rel => exact ⟨_, _, k + 1, by omega, by go_num, rfl, rfl, by omega, by omega, by omega, by omega, H1.out⟩
            case measure => simp [intOf]; omega
      · obtain rfl : k = 2 := by omega
        go_wp2_with fail
        refine (awake_calls _).mono ?_
        rintro e w1 ⟨rfl, h1⟩
        have H1 := Lib.hid (HA.out.trans h1)
        clear h1 HA
        go_wp2_with fail
        go_ret
        exact ⟨rfl, H1.out⟩
end Go.Proofs.Ytgpeckaimkbmoaa.PadL1
