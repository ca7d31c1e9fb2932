/- Take and its reference, of any bytes. -/
import Derived.Test.YtgpeckaimkbmoaaFrmT
import Derived.Test.YtgpeckaimkbmoaaFrmW5
namespace Go.Proofs.Ytgpeckaimkbmoaa.FrmW
open Go Go.RowKit Go.Proofs.Ytgpeckaimkbmoaa Go.Proofs.Ytgpeckaimkbmoaa.Sp Go.Proofs.Ytgpeckaimkbmoaa.Reg Go.Proofs.Ytgpeckaimkbmoaa.CrcW Go.Proofs.Ytgpeckaimkbmoaa.CrcM
open Go.Proofs.Ytgpeckaimkbmoaa.SlW (RetBS RetBSok RetNo)

/-- What Take tells of any bytes. -/
def TakeAny (b : List UInt8) (w : World) (e : Ending) (w' : World) : Prop := if good b then TakeYes w (dec b 4) (dat b) e w' else TakeNo w e w'
theorem take_any (a : Option Addr) (n c : Nat) (b : List UInt8) (w : World) (h : BS w (.slice a n c) b) : Calls Try.prog 26 #[.slice a n c] w (TakeAny b w) := by
  obtain ⟨rfl, hbc, hcm, hnone, -⟩ := h.rd
  by_cases hl : b.length = 96
  · cases a with
    | none => have := hnone rfl; omega
    | some ad =>
      have hspot : ∃ bk off, ad = ⟨bk, off, none⟩ := by
        obtain ⟨-, -, -, -, hr⟩ := h.rd
        obtain ⟨bk, off, e, -⟩ := hr.at (by intro e; have := congrArg List.length e; rw [List.length_map, List.length_nil] at this; omega)
        exact ⟨bk, off, by simpa using e⟩
      obtain ⟨bk, off, rfl⟩ := hspot
      rw [hl] at h ⊢
      refine (take_walk bk off c b w h hl).mono ?_
      intro e w' q
      unfold TakeAny
      by_cases hg : good b
      · rw [if_pos hg] at q ⊢; exact q
      · rw [if_neg hg] at q ⊢; exact q
  · refine (take_short a b.length c w hl (by omega)).mono ?_
    intro e w' q
    unfold TakeAny
    rw [if_neg (fun g => hl g.1)]
    exact q
/-- .. and its reference. -/
theorem rtake_any (b : List UInt8) (w : World) (hm : b.length ≤ 1000) :
    Calls Try.prog 29 #[str b] w fun e w' => e = .returned (if good b then .tuple #[.int .i64 (dec b 4 : Int), str (dat b), .bool true] else .tuple #[.int .i64 0, .string ⟨#[]⟩, .bool false]) ∧ Add w w' := by
  by_cases hl : b.length = 96
  · exact rtake_walk b w hl
  · rw [if_neg (fun g => hl g.1)]
    exact rtake_short b w hl hm
end Go.Proofs.Ytgpeckaimkbmoaa.FrmW
