/- The chunk's contracts, short; frame.Holds; the law's awake. -/
import Derived.Test.YtgpeckaimkbmoaaFrmM
namespace Go.Proofs.Ytgpeckaimkbmoaa.FrmW
open Go Go.RowKit Go.Proofs.Ytgpeckaimkbmoaa Go.Proofs.Ytgpeckaimkbmoaa.Sp Go.Proofs.Ytgpeckaimkbmoaa.Reg Go.Proofs.Ytgpeckaimkbmoaa.CrcW Go.Proofs.Ytgpeckaimkbmoaa.CrcM
open Go.Proofs.Ytgpeckaimkbmoaa.SlW (RetBS RetBSok RetNo)

/-- A chunk is handed back, and true. -/
def PutOk (w : World) (bs : List UInt8) (e : Ending) (w' : World) : Prop := ∃ g, e = .returned (.tuple #[.slice (some ⟨g, 0, none⟩) 96 96, .bool true]) ∧ Add w w' ∧ BS w' (.slice (some ⟨g, 0, none⟩) 96 96) bs
theorem put_ok (id : Nat) (hid : id < 4294967296) (a : Option Addr) (c2 : Nat) (data : List UInt8) (hd : data.length ≤ 64) (w : World) (h : BS w (.slice a data.length c2) data) :
    Calls Try.prog 24 #[.int .i64 (id : Int), .slice a data.length c2] w (PutOk w (frm id data)) := by
  refine (put_yes id hid a c2 data hd w h (St.init w)).mono ?_
  rintro e w' ⟨g, rfl, h1, -, s⟩
  exact ⟨g, rfl, h1, s.bs⟩
theorem take_frm (bk off c id : Nat) (hid : id < 4294967296) (data : List UInt8) (hd : data.length ≤ 64) (w : World) (h : BS w (.slice (some ⟨bk, off, none⟩) 96 c) (frm id data)) :
    Calls Try.prog 26 #[.slice (some ⟨bk, off, none⟩) 96 c] w (TakeYes w id data) := by
  have q := take_walk bk off c _ w h (frm_len id data hd)
  rw [if_pos (good_frm id hid data hd), dec_frm id hid, dat_frm id data hd] at q
  exact q
theorem take_bad (bk off c : Nat) (b : List UInt8) (w : World) (h : BS w (.slice (some ⟨bk, off, none⟩) 96 c) b) (hl : b.length = 96) (hb : ¬ good b) :
    Calls Try.prog 26 #[.slice (some ⟨bk, off, none⟩) 96 c] w (TakeNo w) := by
  have q := take_walk bk off c _ w h hl
  rw [if_neg hb] at q
  exact q
theorem zeros_bad : ¬ good (List.replicate 96 0) := fun h => by
  have := good_mark h
  exact absurd this (by decide)
set_option maxHeartbeats 400000 in
theorem holds_own (bk off c id : Nat) (hid : id < 4294967296) (data : List UInt8) (hd : data.length ≤ 64) (w : World) (h : BS w (.slice (some ⟨bk, off, none⟩) 96 c) (frm id data)) :
    Calls Try.prog 28 #[.slice (some ⟨bk, off, none⟩) 96 c, .int .i64 (id : Int)] w (RetBSok w data) := by
  have HT := Lib.hid (take_frm bk off c id hid data hd w h)
  have e0 : ((id : Int) != (id : Int)) = false := by simp
  clear h
  go_enter Try.func28, Try.ntmps28
  go_wp2_with fail
  refine HT.out.mono ?_
  rintro e w1 ⟨v1, rfl, h1, b1⟩
  have H1 := Lib.hid h1
  have B1 := Lib.hid b1
  clear h1 b1 HT
  go_wp2_with fail
  go_ret2
  exact ⟨v1, rfl, H1.out, B1.out⟩
set_option maxHeartbeats 400000 in
theorem holds_other (bk off c id : Nat) (id2 : Int) (hne : id2 ≠ id) (hid : id < 4294967296) (data : List UInt8) (hd : data.length ≤ 64) (w : World) (h : BS w (.slice (some ⟨bk, off, none⟩) 96 c) (frm id data)) :
    Calls Try.prog 28 #[.slice (some ⟨bk, off, none⟩) 96 c, .int .i64 id2] w (RetNo w) := by
  have HT := Lib.hid (take_frm bk off c id hid data hd w h)
  have e0 : ((id : Int) != id2) = true := by rw [bne_iff_ne]; exact fun e => hne e.symm
  clear h hne
  go_enter Try.func28, Try.ntmps28
  go_wp2_with fail
  refine HT.out.mono ?_
  rintro e w1 ⟨v1, rfl, h1, b1⟩
  have H1 := Lib.hid h1
  clear h1 b1 HT
  go_wp2_with fail
  go_ret2
  exact ⟨rfl, H1.out⟩
set_option maxHeartbeats 800000 in
theorem awake_calls (w : World) : Calls Try.prog 25 #[] w fun e w' => e = .returned (.bool true) ∧ Add w w' := by
  have q := take_bad
  go_enter Try.func25, Try.ntmps25
  clear q
  go_wp2_with fail
  refine (put_ok 5 (by omega) _ 2 [1, 2] (by simp) _ (BS.lit w [1, 2] 5 (0, 0) (by simp [maxLen]))).mono ?_
  rintro e w1 ⟨g, rfl, h1, b1⟩
  have H1 := Lib.hid ((Add.alloc w _).trans h1)
  have B1 := Lib.hid b1
  clear h1 b1
  go_wp2_with fail
  refine (take_frm g 0 96 5 (by omega) [1, 2] (by simp) w1 B1.out).mono ?_
  rintro e w2 ⟨v2, rfl, h2, b2⟩
  obtain ⟨a2, c2, rfl, hb2⟩ := bs_val b2
  have H2 := Lib.hid h2
  have B2 := Lib.hid hb2
  clear h2 b2 hb2
  go_wp2_with (at_make; go_must (refine wpl_make1 rfl _ _ rfl tB rfl (St.init w2) .i64 .i64 96 96 rfl rfl (Nat.le_refl _) (by unfold maxLen; omega) (by omega) ?_); intro g3 w3 s3; rw [bvs_zeros] at s3; have H3 := Lib.hid s3.below; have B3 := Lib.hid s3.bs; clear s3)
  refine (take_bad g3 0 96 _ w3 B3.out (by simp) zeros_bad).mono ?_
  rintro e w4 ⟨rfl, h4⟩
  have H4 := Lib.hid h4
  clear h4 B3
  go_wp2_with fail
  refine (holds_other g 0 96 5 6 (by omega) (by omega) [1, 2] (by simp) w4 (((B1.out.below H2.out).below H3.out).below H4.out)).mono ?_
  rintro e w5 ⟨rfl, h5⟩
  have hcv : (convert 22 9 (.slice a2 2 c2)).run Try.prog w5 = .ok (.string ⟨#[1, 2]⟩) w5 := run_str (P := Try.prog) Try.underlying22 Try.underlying5 Try.underlying9 (((B2.out.below H3.out).below H4.out).below h5)
  have hall : Add w w5 := (((H1.out.trans H2.out).trans H3.out).trans H4.out).trans h5
  have HA := Lib.hid hall
  clear h5 hall
  go_wp2_with fail
  go_ret
  exact ⟨rfl, HA.out⟩
end Go.Proofs.Ytgpeckaimkbmoaa.FrmW
