/- copy of bytes into an owned row: of no package. -/
import Derived.Test.YtjnfhppjkadlpaaRex
import Derived.Laws.CopyRow
import Derived.Laws.IdiomCopy
namespace Go.Proofs.Ytjnfhppjkadlpaa.Sp
open Go Go.RowKit Go.Proofs.Ytjnfhppjkadlpaa Go.Proofs.Ytjnfhppjkadlpaa.Sp Go.Proofs.Ytjnfhppjkadlpaa.Reg
/-- copy of bytes into an owned row. -/
theorem copy_st {P : Program} {dT sT ty e : TypeId} (hu : P.underlying dT = some (.slice e)) (hs : (P.info? e).map (·.size) = some 1) {B : Nat} {w0 w : World} {R : HP} {g n c : Nat} {l : List UInt8}
    (s : St B w0 w (row e 1 (.slice (some ⟨g, 0, none⟩) n c) n (bvs l) * R)) (o dLen dCap : Nat) (a : Option Addr) (c2 : Nat) (data : List UInt8) (hd : BS w (.slice a data.length c2) data) (h1 : data.length ≤ dLen) (h2 : o + data.length ≤ l.length) :
    ∃ w', (Builtin.copy_ #[dT, sT] ty #[.slice (some ⟨g, o, none⟩) dLen dCap, .slice a data.length c2]).run P w = .ok (goInt data.length) w' ∧
      St B w0 w' (row e 1 (.slice (some ⟨g, 0, none⟩) n c) n (bvs (l.take o ++ data ++ l.drop (o + data.length))) * R) := by
  by_cases h0 : data.length = 0
  · have e0 : data = [] := List.eq_nil_of_length_eq_zero h0
    subst e0
    refine ⟨w, run_copy_none w dT sT ty e _ _ _ _ _ _ hu hs (by simp), ?_⟩
    simpa using s
  · obtain ⟨-, -, -, -, hr⟩ := hd.rd
    obtain ⟨b, off, rfl, hc⟩ := hr.at (by intro e; have := congrArg List.length e; rw [List.length_map, List.length_nil] at this; exact h0 this)
    obtain ⟨hl, h⟩ := s.rowOpen
    rcases h with ⟨e1, _, _⟩ | ⟨g', c', cur, e1, h3, h4, h5, h6, t⟩
    · cases e1
    cases e1
    rw [Nat.mul_one] at h5 h6
    have hn : n = l.length := by simpa using hl.symm
    have hrun := run_copy_row (P := P) w dT sT ty e g o dLen dCap ⟨b, off, none⟩ data.length c2 cur e (bvs data) hu hs t.block (by rw [List.length_map]; exact (Nat.min_eq_left h1).symm) (fun j v hj => by
      rw [Addr.add_lit]
      exact hc j v hj) (by rw [List.length_map]; omega) (bvs_one _)
    rw [List.length_map] at hrun
    refine ⟨_, hrun, ?_⟩
    refine (t.setRow _).rowMk h3 h4 (by simp; omega) ?_
    rw [Nat.mul_one]
    obtain ⟨D, hD⟩ : ∃ D, cur.toList = bvs l ++ D := ⟨cur.toList.drop n, by rw [← h6]; exact (List.take_append_drop _ _).symm⟩
    show List.take n (cur.toList.take o ++ bvs data ++ cur.toList.drop (o + data.length)) = _
    have q1 : (bvs l ++ D).take o = (bvs l).take o := List.take_append_of_le_length (by rw [List.length_map]; omega)
    have q2 : (bvs l ++ D).drop (o + data.length) = (bvs l).drop (o + data.length) ++ D := List.drop_append_of_le_length (by rw [List.length_map]; omega)
    rw [hD, q1, q2, ← List.append_assoc, List.take_left' (by simp; omega)]
    simp [bvs, List.map_take, List.map_drop]
end Go.Proofs.Ytjnfhppjkadlpaa.Sp
