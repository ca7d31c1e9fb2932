/- []byte(s): a row of the call's own, which Go marks behind its end. -/
import Derived.Test.YtgpeckaimkbmoaaFrmT2
import Derived.Laws.IdiomStrings
namespace Go.Proofs.Ytgpeckaimkbmoaa.FrmW
open Go Go.RowKit Go.Proofs.Ytgpeckaimkbmoaa Go.Proofs.Ytgpeckaimkbmoaa.Sp Go.Proofs.Ytgpeckaimkbmoaa.Reg Go.Proofs.Ytgpeckaimkbmoaa.CrcW Go.Proofs.Ytgpeckaimkbmoaa.CrcM

/-- An own row of bytes that came of a text: written in its cells alone. -/
def OwnS (B : Nat) (w0 w : World) (e : TypeId) (g cap : Nat) (F : List UInt8) : Prop :=
  ∃ (C : Array Value) (k : Nat), C.size = cap ∧ F.length ≤ cap ∧ cap ≤ maxLen ∧ C.toList.take F.length = bvs F ∧ St B w0 w (pts g (.cells C e (cap, k)) * emp)
theorem OwnS.cell {B : Nat} {w0 w : World} {e : TypeId} {g cap : Nat} {F : List UInt8} (h : OwnS B w0 w e g cap F) (j : Nat) (hj : j < F.length) : w.cell? ⟨g, j, none⟩ = some (bv F[j]) := by
  obtain ⟨C, k, h1, h2, h3, h4, s⟩ := h
  rw [s.cell]
  have := congrArg (·[j]?) h4
  simp only [List.getElem?_take, hj, if_true] at this
  rw [bvs_get hj] at this
  simpa using this
theorem OwnS.free {B : Nat} {w0 w : World} {e : TypeId} {g cap : Nat} {F : List UInt8} (h : OwnS B w0 w e g cap F) (j : Nat) (hj : j < F.length) : w.frozen? ⟨g, j, none⟩ = false := by
  obtain ⟨C, k, h1, h2, h3, h4, s⟩ := h
  unfold World.frozen?
  rw [s.block]
  have : ¬ cap ≤ j := by omega
  simp [this]
theorem OwnS.set {B : Nat} {w0 w : World} {e : TypeId} {g cap : Nat} {F : List UInt8} (h : OwnS B w0 w e g cap F) (j : Nat) (x : UInt8) (hj : j < F.length) : OwnS B w0 (w.setCell ⟨g, j, none⟩ (bv x)) e g cap (F.set j x) := by
  obtain ⟨C, k, h1, h2, h3, h4, s⟩ := h
  refine ⟨_, k, by rw [Array.size_setIfInBounds]; exact h1, by rw [List.length_set]; exact h2, h3, ?_, s.set j (bv x)⟩
  rw [List.length_set, Array.toList_setIfInBounds, List.take_set, h4]
  simp [bvs, List.map_set]
theorem OwnS.drew {B : Nat} {w0 w : World} {e : TypeId} {g cap : Nat} {F : List UInt8} (h : OwnS B w0 w e g cap F) : OwnS B w0 w.drew e g cap F := by
  obtain ⟨C, k, h1, h2, h3, h4, s⟩ := h
  exact ⟨C, k, h1, h2, h3, h4, s.drew⟩
theorem OwnS.add {B : Nat} {w0 w : World} {e : TypeId} {g cap : Nat} {F : List UInt8} (h : OwnS B w0 w e g cap F) : Below B w0 w := by
  obtain ⟨C, k, h1, h2, h3, h4, s⟩ := h
  exact s.below
theorem OwnS.bs {B : Nat} {w0 w : World} {e : TypeId} {g cap : Nat} {F : List UInt8} (h : OwnS B w0 w e g cap F) : BS w (.slice (some ⟨g, 0, none⟩) F.length cap) F := by
  refine ⟨_, _, rfl, ?_, ?_, (fun e => by cases e), .inr ⟨g, 0, rfl, fun j u hj => ?_⟩⟩
  · obtain ⟨C, k, h1, h2, h3, h4, s⟩ := h; exact h2
  · obtain ⟨C, k, h1, h2, h3, h4, s⟩ := h; exact h3
  · have hjl : j < F.length := by have := (List.getElem?_eq_some_iff.1 hj).1; simpa using this
    rw [bvs_get hjl] at hj
    cases hj
    rw [Nat.zero_add]
    exact h.cell j hjl
/-- []byte(s). -/
theorem bytes_of {P : Program} {src dst e : TypeId} (hs : P.underlying src = some .string) (hd : P.underlying dst = some (.slice e)) (he : P.underlying e = some (.int .u8)) (F : List UInt8) (hF : F.length ≤ maxLen) (w : World) :
    ∃ cap w', (convert src dst (str F)).run P w = .ok (.slice (some ⟨w.heap.size, 0, none⟩) F.length cap) w' ∧ OwnS w.heap.size w w' e w.heap.size cap F := by
  have hsz : (⟨F.toArray⟩ : ByteArray).size = F.length := by simp [ByteArray.size]
  have q := run_bytes_of_string (P := P) w src dst e ⟨F.toArray⟩ hs hd he
  rw [hsz] at q
  have g1 := grownCap_ge w F.length 0 e
  have g2 := grownCap_le_maxLen w F.length 0 e hF
  generalize grownCap w F.length 0 e = cap at q g1 g2
  have hC : (bytesRow ⟨F.toArray⟩ cap).size = cap := by simp [bytesRow, hsz]; omega
  rw [hC] at q
  refine ⟨cap, _, q, _, cap + 1, hC, g1, g2, ?_, (St.init w).drew.alloc _⟩
  simp [bytesRow, hsz, bvs, List.take_append_of_le_length]
end Go.Proofs.Ytgpeckaimkbmoaa.FrmW
