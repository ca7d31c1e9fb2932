/- The law FrameBits, walked. -/
import Derived.Test.YtgpeckaimkbmoaaFrmP
import Derived.Test.YtgpeckaimkbmoaaFrmW5
namespace Go.Proofs.Ytgpeckaimkbmoaa.FrmL3
open Go Go.RowKit Go.Proofs.Ytgpeckaimkbmoaa Go.Proofs.Ytgpeckaimkbmoaa.Sp Go.Proofs.Ytgpeckaimkbmoaa.Reg Go.Proofs.Ytgpeckaimkbmoaa.CrcW Go.Proofs.Ytgpeckaimkbmoaa.CrcM Go.Proofs.Ytgpeckaimkbmoaa.FrmW
open Go.Proofs.Ytgpeckaimkbmoaa.SlW (RetBS RetBSok RetNo)

theorem txt_ne {x y : List UInt8} (h : x ≠ y) : ¬ ((⟨x.toArray⟩ : ByteArray) = ⟨y.toArray⟩) := by
  intro e
  injection e with e
  exact h (by simpa using e)
set_option maxHeartbeats 3200000 in
set_option maxRecDepth 100000 in
theorem walkRow (i0 : Int) (a : Option Addr) (c : Nat) (bs : List UInt8) (b0 o0 : Int) (a' : Option Addr) (c' : Nat) (ms : List UInt8) (w : World) (_wi : (Lit.int .i64 i0).wf = true) (h : BS w (.slice a bs.length c) bs) (_y : bs.length * 1 ≤ 140737488351232)
    (_wb : (Lit.int .i64 b0).wf = true) (_wo : (Lit.int .i64 o0).wf = true) (h' : BS w (.slice a' ms.length c') ms) (_y' : ms.length * 1 ≤ 140737488351232) :
    Calls Try.prog 12 #[.int .i64 i0, .slice a bs.length c, .int .i64 b0, .int .i64 o0, .slice a' ms.length c'] w fun e w' => e = .returned (.bool true) ∧ Below w.heap.size w w' := by
  have HB := Lib.hid h
  have HM := Lib.hid h'
  clear _wi h _y _wb _wo h' _y'
  by_cases hl1 : 64 < bs.length
  · have hd1 : (64 : Int) < (bs.length : Int) := by omega
    go_enter Try.func12, Try.ntmps12
    go_wp2_with fail
    refine (FrmW.awake_calls _).mono ?_
    rintro e w1 ⟨rfl, h1⟩
    go_wp2_with fail
    go_ret
    exact ⟨rfl, h1⟩
  · by_cases hl2 : 64 < ms.length
    · have hd1 : (bs.length : Int) ≤ 64 := by omega
      have hd2 : (64 : Int) < (ms.length : Int) := by omega
      go_enter Try.func12, Try.ntmps12
      go_wp2_with fail
      refine (FrmW.awake_calls _).mono ?_
      rintro e w1 ⟨rfl, h1⟩
      go_wp2_with fail
      go_ret
      exact ⟨rfl, h1⟩
    · have hd1 : (bs.length : Int) ≤ 64 := by omega
      have hd2 : (ms.length : Int) ≤ 64 := by omega
      have k1 := and_m32 i0
      have k2 := and_m32 o0
      have k3 := and_m16 b0
      obtain ⟨m, hm, hm1⟩ : ∃ m : Nat, i0 % 4294967296 = (m : Int) ∧ m < 4294967296 := ⟨(i0 % 4294967296).toNat, by omega, by omega⟩
      obtain ⟨n, hn, hn1⟩ : ∃ n : Nat, o0 % 4294967296 = (n : Int) ∧ n < 4294967296 := ⟨(o0 % 4294967296).toNat, by omega, by omega⟩
      obtain ⟨t, ht, ht1⟩ : ∃ t : Nat, b0 % 65536 % 768 = (t : Int) ∧ t < 768 := ⟨(b0 % 65536 % 768).toNat, by omega, by omega⟩
      go_enter Try.func12, Try.ntmps12
      go_wp2_with fail
      refine (put_yes m hm1 a c bs (by omega) w HB.out (St.init w)).mono ?_
      rintro e w1 ⟨g, rfl, h1, -, s1⟩
      have H1 := Lib.hid h1
      have S1 := Lib.hid s1
      have M1 := Lib.hid (HM.out.below h1)
      clear h1 s1
      go_wp2_with fail
      refine (put_ok n hn1 a' c' ms (by omega) w1 M1.out).mono ?_
      rintro e w2 ⟨g2, rfl, h2, b2⟩
      have S2 := Lib.hid (S1.out.keep h2)
      have r1 : (convert 22 9 (.slice (some ⟨g, 0, none⟩) 96 96)).run Try.prog w2 = .ok (str (frm m bs)) w2 := run_str (P := Try.prog) Try.underlying22 Try.underlying5 Try.underlying9 S2.out.bs
      have r2 : (convert 22 9 (.slice (some ⟨g2, 0, none⟩) 96 96)).run Try.prog w2 = .ok (str (frm n ms)) w2 := run_str (P := Try.prog) Try.underlying22 Try.underlying5 Try.underlying9 b2
      have r3 := run_str (P := Try.prog) Try.underlying22 Try.underlying5 Try.underlying9 ((HB.out.below H1.out).below h2)
      have r4 := run_str (P := Try.prog) Try.underlying22 Try.underlying5 Try.underlying9 (M1.out.below h2)
      have hinj := frm_inj m n hm1 hn1 bs ms (by omega) (by omega)
      have hfl := frm_len m bs (by omega)
      have hbad : ∀ (F : List UInt8) (_ : F = frm m bs) (j i : Nat) (hj : j < F.length), i < 8 → ¬ good (F.set j (F[j] ^^^ UInt8.ofNat (2 ^ i))) := by
        rintro F rfl j i hj hi
        exact bit_bad (good_frm m hm1 bs (by omega)) j i (by rw [hfl] at hj; exact hj) hi
      have HINJ := Lib.hid hinj
      clear h2 b2 M1 S1 H1 hinj
      generalize hF : frm m bs = F at S2 r1 HINJ hfl
      generalize frm n ms = G at r2 HINJ
      have HFL := Lib.hid hfl
      have ht8 : t / 8 < F.length := by omega
      have HBAD := Lib.hid (hbad F hF.symm (t / 8) (t % 8) ht8 (by omega))
      clear hbad hF
      obtain ⟨-, -, -, -, -, hcell, hfree, -, hset⟩ := S2.out.rowB'
      have hc1 := hcell (t / 8) ht8
      have hf1 := hfree (t / 8)
      have HSET := Lib.hid (hset (t / 8) (F[t / 8] ^^^ UInt8.ofNat (2 ^ (t % 8))) ht8)
      clear hcell hfree hset hfl
      by_cases he : m = n ∧ bs = ms
      · obtain ⟨rfl, rfl⟩ := he
        have hG : F = G := HINJ.out.2 ⟨rfl, rfl⟩
        subst hG
        go_wp2_with fail
        go_region
        simp only [ht]
        have hx : (Value.int .u8 (bits .xor .u8 (F[t / 8].toNat : Int) (2 ^ (t % 8) % 256))) = bv (F[t / 8] ^^^ UInt8.ofNat (2 ^ (t % 8))) := congrArg (Value.int .u8) (bit_int _ t)
        rw [hx]
        have s3 := HSET.out.drew
        clear hx hc1 hf1 HSET S2
        generalize (w2.setCell ⟨g, t / 8, none⟩ (bv (F[t / 8] ^^^ UInt8.ofNat (2 ^ (t % 8))))).drew = w3 at s3 ⊢
        have B3 := Lib.hid s3.bs
        have h3 : Add w w3 := s3.below
        have H3 := Lib.hid h3
        clear s3 h3
        go_wp2_with fail
        refine (take_bad g 0 96 _ w3 B3.out (by rw [List.length_set]; exact HFL.out) (HBAD.out)).mono ?_
        rintro e w4 ⟨rfl, h4⟩
        have H4 := Lib.hid (H3.out.trans h4)
        clear h4 B3 H3
        go_wp2_with fail
        refine (FrmW.awake_calls _).mono ?_
        rintro e w5 ⟨rfl, h5⟩
        have H5 := Lib.hid (H4.out.trans h5)
        clear h5
        go_wp2_with fail
        go_ret
        exact ⟨rfl, H5.out⟩
      · have HGN := Lib.hid (beq_eq_false_iff_ne.2 (fun k : F = G => he (HINJ.out.1 k)))
        by_cases hmn : m = n
        · subst hmn
          have hne : (bs == ms) = false := beq_eq_false_iff_ne.2 (fun k => he ⟨rfl, k⟩)
          have hG := HGN.out
          clear he
          go_wp2_with fail
          go_region
          simp only [ht]
          have hx : (Value.int .u8 (bits .xor .u8 (F[t / 8].toNat : Int) (2 ^ (t % 8) % 256))) = bv (F[t / 8] ^^^ UInt8.ofNat (2 ^ (t % 8))) := congrArg (Value.int .u8) (bit_int _ t)
          rw [hx]
          have s3 := HSET.out.drew
          clear hx hc1 hf1 HSET S2
          generalize (w2.setCell ⟨g, t / 8, none⟩ (bv (F[t / 8] ^^^ UInt8.ofNat (2 ^ (t % 8))))).drew = w3 at s3 ⊢
          have B3 := Lib.hid s3.bs
          have h3 : Add w w3 := s3.below
          have H3 := Lib.hid h3
          clear s3 h3
          go_wp2_with fail
          refine (take_bad g 0 96 _ w3 B3.out (by rw [List.length_set]; exact HFL.out) (HBAD.out)).mono ?_
          rintro e w4 ⟨rfl, h4⟩
          have H4 := Lib.hid (H3.out.trans h4)
          clear h4 B3 H3
          go_wp2_with fail
          refine (FrmW.awake_calls _).mono ?_
          rintro e w5 ⟨rfl, h5⟩
          have H5 := Lib.hid (H4.out.trans h5)
          clear h5
          go_wp2_with fail
          go_ret
          exact ⟨rfl, H5.out⟩
        · have hq : ((m : Int) == (n : Int)) = false := by rw [beq_eq_false_iff_ne]; omega
          have hG := HGN.out
          clear he hmn
          go_wp2_with fail
          go_region
          simp only [ht]
          have hx : (Value.int .u8 (bits .xor .u8 (F[t / 8].toNat : Int) (2 ^ (t % 8) % 256))) = bv (F[t / 8] ^^^ UInt8.ofNat (2 ^ (t % 8))) := congrArg (Value.int .u8) (bit_int _ t)
          rw [hx]
          have s3 := HSET.out.drew
          clear hx hc1 hf1 HSET S2
          generalize (w2.setCell ⟨g, t / 8, none⟩ (bv (F[t / 8] ^^^ UInt8.ofNat (2 ^ (t % 8))))).drew = w3 at s3 ⊢
          have B3 := Lib.hid s3.bs
          have h3 : Add w w3 := s3.below
          have H3 := Lib.hid h3
          clear s3 h3
          go_wp2_with fail
          refine (take_bad g 0 96 _ w3 B3.out (by rw [List.length_set]; exact HFL.out) (HBAD.out)).mono ?_
          rintro e w4 ⟨rfl, h4⟩
          have H4 := Lib.hid (H3.out.trans h4)
          clear h4 B3 H3
          go_wp2_with fail
          refine (FrmW.awake_calls _).mono ?_
          rintro e w5 ⟨rfl, h5⟩
          have H5 := Lib.hid (H4.out.trans h5)
          clear h5
          go_wp2_with fail
          go_ret
          exact ⟨rfl, H5.out⟩
end Go.Proofs.Ytgpeckaimkbmoaa.FrmL3
