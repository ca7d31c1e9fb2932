/- Arguments opened: slices of numbers, their size within the reach. No condition. -/
import Derived.Test.YtgpeckaimkbmoaaSp
import Derived.ProofKit
import Derived.OpenShut
import Derived.SizedLaws
namespace Go.Proofs.Ytgpeckaimkbmoaa.Sp
open Go Go.RowKit Go.ChangeShapes Go.WideShapes Go.ChangeAt

/-- A slice of numbers that can be read as data takes no more than the reach. -/
theorem sized_ints {H : Type} {enc : TypeId × Value → H} {P : Program} {W : World} {base : Nat} {spare : Nat → Bool} {held : Bool} {t e : TypeId} {k : IntKind} {a : Option Addr} {len cap : Nat} {d : DataW H} {ps : List MemPlace}
    {ts : List TypeId} {ds : List (DataW H)} {j : Nat} (hsz : (DataW.weightsEach P ts ds).all (· ≤ reachBytes) = true) (ht : ts[j]? = some t) (hd : ds[j]? = some d) (hu : P.underlying t = some (.slice e))
    (he : P.underlying e = some (.int k)) (hc : P.cellsOf e = 1) {b : Nat} (hb : P.bytesOf e = b) (h : DataW.Trod enc P W base spare held t (.slice a len cap) d ps) : len * b ≤ 140737488351232 := by
  obtain ⟨fuel, hf⟩ := h
  rcases open_ints hu he hc hf with ⟨hcs, _⟩ | ⟨x, l, c, zs, hcs, _, hl, _, hz, hx, _, _⟩ <;> simp [Value.cells] at hcs
  · rw [hcs.2.1]; omega
  · obtain ⟨rfl, rfl, rfl⟩ := hcs
    rw [(Prod.mk.inj hx).1] at hd
    have q := sized_slice hsz ht hd hu
    rw [hb] at q
    refine Nat.le_trans (Nat.mul_le_mul_right b ?_) q
    have : zs.length = (zs.take len).length + (zs.drop len).length := by rw [← List.length_append, List.take_append_drop]
    have h2 : len ≤ zs.length := by rw [hz]; split <;> omega
    simp only [lits, List.length_map]
    omega
end Go.Proofs.Ytgpeckaimkbmoaa.Sp
