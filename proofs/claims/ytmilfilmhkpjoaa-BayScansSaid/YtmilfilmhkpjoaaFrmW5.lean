/- The chunk's contracts, short; frame.Holds; the law's awake. -/
import Derived.Test.YtmilfilmhkpjoaaFrmM
namespace Go.Proofs.Ytmilfilmhkpjoaa.FrmW
open Go Go.RowKit Go.Proofs.Ytmilfilmhkpjoaa Go.Proofs.Ytmilfilmhkpjoaa.Sp Go.Proofs.Ytmilfilmhkpjoaa.Reg Go.Proofs.Ytmilfilmhkpjoaa.CrcW Go.Proofs.Ytmilfilmhkpjoaa.CrcM
open Go.Proofs.Ytmilfilmhkpjoaa.SlW (RetBS RetBSok RetNo)

/-- A chunk is handed back, and true. -/
def PutOk (w : World) (bs : List UInt8) (e : Ending) (w' : World) : Prop := ∃ g, e = .returned (.tuple #[.slice (some ⟨g, 0, none⟩) 96 96, .bool true]) ∧ Add w w' ∧ BS w' (.slice (some ⟨g, 0, none⟩) 96 96) bs
theorem put_ok (id : Nat) (hid : id < 4294967296) (a : Option Addr) (c2 : Nat) (data : List UInt8) (hd : data.length ≤ 64) (w : World) (h : BS w (.slice a data.length c2) data) :
    Calls Try.prog 60 #[.int .i64 (id : Int), .slice a data.length c2] w (PutOk w (frm id data)) := by
  refine (put_yes id hid a c2 data hd w h (St.init w)).mono ?_
  rintro e w' ⟨g, rfl, h1, -, s⟩
  exact ⟨g, rfl, h1, s.bs⟩
theorem take_frm (bk off c id : Nat) (hid : id < 4294967296) (data : List UInt8) (hd : data.length ≤ 64) (w : World) (h : BS w (.slice (some ⟨bk, off, none⟩) 96 c) (frm id data)) :
    Calls Try.prog 66 #[.slice (some ⟨bk, off, none⟩) 96 c] w (TakeYes w id data) := by
  have q := take_walk bk off c _ w h (frm_len id data hd)
  rw [if_pos (good_frm id hid data hd), dec_frm id hid, dat_frm id data hd] at q
  exact q
theorem take_bad (bk off c : Nat) (b : List UInt8) (w : World) (h : BS w (.slice (some ⟨bk, off, none⟩) 96 c) b) (hl : b.length = 96) (hb : ¬ good b) :
    Calls Try.prog 66 #[.slice (some ⟨bk, off, none⟩) 96 c] w (TakeNo w) := by
  have q := take_walk bk off c _ w h hl
  rw [if_neg hb] at q
  exact q
theorem zeros_bad : ¬ good (List.replicate 96 0) := fun h => by
  have := good_mark h
  exact absurd this (by decide)
set_option maxHeartbeats 400000 in
theorem holds_own (bk off c id : Nat) (hid : id < 4294967296) (data : List UInt8) (hd : data.length ≤ 64) (w : World) (h : BS w (.slice (some ⟨bk, off, none⟩) 96 c) (frm id data)) :
    Calls Try.prog 63 #[.slice (some ⟨bk, off, none⟩) 96 c, .int .i64 (id : Int)] w (RetBSok w data) := by
  have HT := Lib.hid (take_frm bk off c id hid data hd w h)
  have e0 : ((id : Int) != (id : Int)) = false := by simp
  clear h
  go_enter Try.func63, Try.ntmps63
  go_wp2_with fail
  refine HT.out.mono ?_
  rintro e w1 ⟨v1, rfl, h1, b1⟩
  have H1 := Lib.hid h1
  have B1 := Lib.hid b1
  clear h1 b1 HT
  go_wp2_with fail
  go_ret2
  exact ⟨v1, rfl, H1.out, B1.out⟩
set_option maxHeartbeats 400000 in
theorem holds_other (bk off c id : Nat) (id2 : Int) (hne : id2 ≠ id) (hid : id < 4294967296) (data : List UInt8) (hd : data.length ≤ 64) (w : World) (h : BS w (.slice (some ⟨bk, off, none⟩) 96 c) (frm id data)) :
    Calls Try.prog 63 #[.slice (some ⟨bk, off, none⟩) 96 c, .int .i64 id2] w (RetNo w) := by
  have HT := Lib.hid (take_frm bk off c id hid data hd w h)
  have e0 : ((id : Int) != id2) = true := by rw [bne_iff_ne]; exact fun e => hne e.symm
  clear h hne
  go_enter Try.func63, Try.ntmps63
  go_wp2_with fail
  refine HT.out.mono ?_
  rintro e w1 ⟨v1, rfl, h1, b1⟩
  have H1 := Lib.hid h1
  clear h1 b1 HT
  go_wp2_with fail
  go_ret2
  exact ⟨rfl, H1.out⟩
end Go.Proofs.Ytmilfilmhkpjoaa.FrmW
