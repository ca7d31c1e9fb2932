/- Rows of one-cell elements: cells read and set, whatever they hold; bytes that can be read, cell by cell. Program-free; no condition. -/
import Derived.Test.YtjnfhppjkadlpaaSp
namespace Go.Proofs.Ytjnfhppjkadlpaa.Sp
open Go Go.RowKit
/-- A row of one-cell elements: its cells, and one of them set. -/
theorem St.row1 {B : Nat} {w0 w : World} {R : HP} {e : TypeId} {g n m c : Nat} {xs : List Value} (s : St B w0 w (row e 1 (.slice (some ⟨g, 0, none⟩) n c) m xs * R)) :
    n = m ∧ xs.length = m ∧ m ≤ c ∧ c ≤ maxLen ∧ (∀ j, j < m → w.cell? ⟨g, j, none⟩ = xs[j]?) ∧ (∀ j, w.frozen? ⟨g, j, none⟩ = false) ∧
      ∀ (j : Nat) (x : Value), j < m → St B w0 (w.setCell ⟨g, j, none⟩ x) (row e 1 (.slice (some ⟨g, 0, none⟩) n c) m (xs.set j x) * R) := by
  obtain ⟨hl, h⟩ := s.rowOpen
  rcases h with ⟨e1, _, _⟩ | ⟨g', cap, cur, hv, h1, h2, h3, h4, t⟩
  · cases e1
  · obtain ⟨e2, e3, e4⟩ : some (⟨g, 0, none⟩ : Addr) = some ⟨g', 0, none⟩ ∧ n = m ∧ c = cap := by simpa using hv
    cases e2
    subst e3
    subst e4
    rw [Nat.mul_one] at hl h3 h4
    refine ⟨rfl, hl, h1, h2, fun j hj => ?_, fun j => t.free j, fun j x hj => ?_⟩
    · rw [t.cell, ← h4, List.getElem?_take, if_pos hj]
      simp
    · refine (t.set j x).rowMk h1 h2 (by simpa using h3) ?_
      rw [Nat.mul_one, Array.toList_setIfInBounds, List.take_set, h4]
/-- Its value, where it is not empty or not nil. -/
theorem BS.cellAt {w : World} {b off n c : Nat} {bs : List UInt8} (h : BS w (.slice (some ⟨b, off, none⟩) n c) bs) (j : Nat) (hj : j < bs.length) : w.cell? ⟨b, off + j, none⟩ = some (bv bs[j]) := by
  obtain ⟨-, -, -, -, hr⟩ := h.rd
  obtain ⟨b', off', e, hc⟩ := hr.at (by intro h0; have := congrArg List.length h0; rw [List.length_map, List.length_nil] at this; omega)
  cases e
  exact hc j _ (bvs_get hj)
/-- The head of bytes that are not none. -/
theorem BS.head {w : World} {a : Option Addr} {n c : Nat} {bs : List UInt8} (h : BS w (.slice a n c) bs) (h0 : 0 < bs.length) : ∃ b off, a = some ⟨b, off, none⟩ := by
  obtain ⟨-, -, -, -, hr⟩ := h.rd
  obtain ⟨b', off', e, hc⟩ := hr.at (by intro h1; have := congrArg List.length h1; rw [List.length_map, List.length_nil] at this; omega)
  exact ⟨b', off', e⟩
end Go.Proofs.Ytjnfhppjkadlpaa.Sp
