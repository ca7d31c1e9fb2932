/- The law FramePuts, walked. -/
import Derived.Test.YtgpeckaimkbmoaaFrmR
namespace Go.Proofs.Ytgpeckaimkbmoaa.FrmL2
open Go Go.RowKit Go.Proofs.Ytgpeckaimkbmoaa Go.Proofs.Ytgpeckaimkbmoaa.Sp Go.Proofs.Ytgpeckaimkbmoaa.Reg Go.Proofs.Ytgpeckaimkbmoaa.CrcW Go.Proofs.Ytgpeckaimkbmoaa.CrcM Go.Proofs.Ytgpeckaimkbmoaa.FrmW
open Go.Proofs.Ytgpeckaimkbmoaa.SlW (RetBS RetBSok RetNo)

theorem xor_ne (m : Nat) (h : m < 4294967296) : bits .xor .i64 (m : Int) 1 ≠ (m : Int) := by
  have e1 : ((m : Int) % ((2 ^ 64 : Nat) : Int)).toNat = m := by omega
  have e2 : ((1 : Int) % ((2 ^ 64 : Nat) : Int)).toNat = 1 := by decide
  have h2 : m ^^^ 1 < 2 ^ 32 := Nat.xor_lt_two_pow (by omega) (by decide)
  have h3 : (m ^^^ 1) % 2 = (m + 1) % 2 := by
    have q := Nat.xor_mod_two_pow (a := m) (b := 1) (n := 1)
    rw [show 2 ^ 1 = 2 from rfl] at q
    rw [q]
    rcases (by omega : m % 2 = 0 ∨ m % 2 = 1) with e | e
    · rw [e]; show 1 = _; omega
    · rw [e]; show 0 = _; omega
  have key : (BitVec.ofInt 64 (m : Int) ^^^ BitVec.ofInt 64 1).toNat = m ^^^ 1 := by
    rw [BitVec.toNat_xor, BitVec.toNat_ofInt, BitVec.toNat_ofInt, e1, e2]
  intro e
  have e' : IntKind.i64.wrap ((BitVec.ofInt 64 (m : Int) ^^^ BitVec.ofInt 64 1).toNat : Nat) = (m : Int) := e
  rw [key, IntKind.wrap_i64] at e'
  omega
set_option maxHeartbeats 3200000 in
set_option maxRecDepth 100000 in
theorem walkRow (i0 : Int) (a : Option Addr) (c : Nat) (bs : List UInt8) (w : World) (wi : (Lit.int .i64 i0).wf = true) (h : BS w (.slice a bs.length c) bs) (_y : bs.length * 1 ≤ 140737488351232) :
    Calls Try.prog 10 #[.int .i64 i0, .slice a bs.length c] w fun e w' => e = .returned (.bool true) ∧ Below w.heap.size w w' := by
  have hi : -9223372036854775808 ≤ i0 ∧ i0 ≤ 9223372036854775807 := by simpa [Lit.wf, IntKind.min, IntKind.max, IntKind.signed, IntKind.bits] using wi
  have HB := Lib.hid h
  have HI := Lib.hid hi
  clear h wi hi _y
  by_cases hlen : 300 < bs.length
  · go_enter Try.func10, Try.ntmps10
    go_wp2_with fail
    refine (FrmW.awake_calls _).mono ?_
    rintro e w1 ⟨rfl, h1⟩
    go_wp2_with fail
    go_ret
    exact ⟨rfl, h1⟩
  · have hl300 : bs.length ≤ 300 := by omega
    clear hlen
    go_enter Try.func10, Try.ntmps10
    go_wp2_with fail
    go_loopw [0, 5] (fun v0 v5 wr => ∃ (k : Nat) (i : Int), k ≤ 2 ∧ v5 = .int .i64 k ∧ v0 = .int .i64 i ∧ (-9223372036854775808 ≤ i ∧ i ≤ 9223372036854775807) ∧ Add w wr) (fun _ v5 _ => 2 - (intOf v5).toNat)
    case atStart => exact ⟨0, i0, by omega, rfl, rfl, HI.out, Add.refl w⟩
    case round =>
      obtain ⟨k, i, hk, rfl, rfl, hi, ha⟩ := hrel
      have HA := Lib.hid ha
      have HI := Lib.hid hi
      clear ha hi
      by_cases hlt : k < 2
      · have hb := HB.out.below HA.out
        have hcv := run_str (P := Try.prog) Try.underlying22 Try.underlying5 Try.underlying9 hb
        have HB1 := Lib.hid hb
        clear hb
        by_cases hg : 0 ≤ i ∧ i ≤ 4294967295 ∧ bs.length ≤ 64
        · obtain ⟨g0, g1, g2⟩ := hg
          obtain ⟨m, rfl⟩ := Int.eq_ofNat_of_zero_le g0
          have hm : m < 4294967296 := by omega
          have k32 := and_m32 (m : Int)
          have HX := Lib.hid (xor_ne m hm)
          generalize hgx : bits .xor .i64 (m : Int) 1 = x at HX
          clear hcv
          go_wp2_with fail
          refine (put_ok m hm a c bs g2 wr HB1.out).mono ?_
          rintro e w1 ⟨g, rfl, h1, b1⟩
          have q1 := run_str (P := Try.prog) Try.underlying22 Try.underlying5 Try.underlying9 (HB1.out.below h1)
          have H1 := Lib.hid (HA.out.trans h1)
          have B1 := Lib.hid b1
          have D1 := Lib.hid (HB1.out.below h1)
          clear h1 b1 HB1
          go_wp2_with fail
          refine (rframe_yes m hm bs g2 w1).mono ?_
          clear q1
          rintro e w2 ⟨rfl, h2⟩
          have q2 : (convert 22 9 (.slice (some ⟨g, 0, none⟩) 96 96)).run Try.prog w2 = .ok (str (frm m bs)) w2 := run_str (P := Try.prog) Try.underlying22 Try.underlying5 Try.underlying9 (B1.out.below h2)
          have H2 := Lib.hid (H1.out.trans h2)
          have B2 := Lib.hid (B1.out.below h2)
          have D2 := Lib.hid (D1.out.below h2)
          clear h2 B1 H1 D1
          go_wp2_with fail
          refine (take_frm g 0 96 m hm bs g2 w2 B2.out).mono ?_
          clear q2
          rintro e w3 ⟨v3, rfl, h3, b3⟩
          obtain ⟨a3, c3, rfl, hb3⟩ := bs_val b3
          have H3 := Lib.hid (H2.out.trans h3)
          have B3 := Lib.hid (B2.out.below h3)
          have D3 := Lib.hid (D2.out.below h3)
          have E3 := Lib.hid hb3
          clear h3 b3 hb3 H2 B2 D2
          go_wp2_with fail
          refine (holds_own g 0 96 m hm bs g2 w3 B3.out).mono ?_
          rintro e w4 ⟨v4, rfl, h4, b4⟩
          obtain ⟨a4, c4, rfl, hb4⟩ := bs_val b4
          have H4 := Lib.hid (H3.out.trans h4)
          have B4 := Lib.hid (B3.out.below h4)
          have D4 := Lib.hid (D3.out.below h4)
          have E4 := Lib.hid (E3.out.below h4)
          have F4 := Lib.hid hb4
          clear h4 b4 hb4 H3 B3 D3 E3
          go_wp2_with fail
          refine (holds_other g 0 96 m x HX.out hm bs g2 w4 B4.out).mono ?_
          rintro e w5 ⟨rfl, h5⟩
          have r1 := run_str (P := Try.prog) Try.underlying22 Try.underlying5 Try.underlying9 (D4.out.below h5)
          have r2 := run_str (P := Try.prog) Try.underlying22 Try.underlying5 Try.underlying9 (E4.out.below h5)
          have r3 := run_str (P := Try.prog) Try.underlying22 Try.underlying5 Try.underlying9 (F4.out.below h5)
          have H5 := Lib.hid (H4.out.trans h5)
          clear h5 H4 B4 D4 E4 F4
          go_wp2_with fail
          go_roundw
          case rel => exact ⟨k + 1, _, by omega, by go_num, rfl, by omega, H5.out⟩
          case measure => simp [intOf]; omega
        · have HG := Lib.hid hg
          clear hg
          have k32 := and_m32 i
          go_wp2_with fail
          refine (put_no i a bs.length c wr HG.out).mono ?_
          rintro e w1 ⟨rfl, h1⟩
          have q1 := run_str (P := Try.prog) Try.underlying22 Try.underlying5 Try.underlying9 (HB1.out.below h1)
          have H1 := Lib.hid (HA.out.trans h1)
          clear h1 HB1 hcv
          go_wp2_with fail
          refine (rframe_no i bs (by omega) w1 HG.out).mono ?_
          clear q1
          rintro e w2 ⟨rfl, h2⟩
          have q2 : (convert 22 9 (.slice none 0 0)).run Try.prog w2 = .ok (.string ⟨#[]⟩) w2 := run_str (P := Try.prog) Try.underlying22 Try.underlying5 Try.underlying9 (BS.nil w2)
          have H2 := Lib.hid (H1.out.trans h2)
          clear h2 H1
          go_wp2_with fail
          go_roundw
          case rel => exact ⟨k + 1, _, by omega, by go_num, rfl, by omega, H2.out⟩
          case measure => simp [intOf]; omega
      · obtain rfl : k = 2 := by omega
        go_wp2_with fail
        refine (FrmW.awake_calls _).mono ?_
        rintro e w1 ⟨rfl, h1⟩
        have H1 := Lib.hid (HA.out.trans h1)
        clear h1 HA
        go_wp2_with fail
        go_ret
        exact ⟨rfl, H1.out⟩
end Go.Proofs.Ytgpeckaimkbmoaa.FrmL2
