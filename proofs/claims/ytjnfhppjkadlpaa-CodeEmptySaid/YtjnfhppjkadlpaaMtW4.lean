/- mat's Mul where it refuses; Times, walked. -/
import Derived.Test.YtjnfhppjkadlpaaMtW3
namespace Go.Proofs.Ytjnfhppjkadlpaa.Mt
open Go Go.RowKit Go.Proofs.Ytjnfhppjkadlpaa Go.Proofs.Ytjnfhppjkadlpaa.Sp Go.Proofs.Ytjnfhppjkadlpaa.Reg Go.Proofs.Ytjnfhppjkadlpaa.Rd Go.Proofs.Ytjnfhppjkadlpaa.Gf
section
variable {B : Nat} {w0 : World} {R : HP}
/-- A product with a column, under way. -/
def tl (r n : Nat) (f : Mx) (v : List UInt8) (i : Nat) : List UInt8 := (List.range r).map fun a => if a < i then gdot (mrow n f a) v else 0
theorem tl_len (r n : Nat) (f : Mx) (v : List UInt8) (i : Nat) : (tl r n f v i).length = r := by simp [tl]
theorem tl_zero (r n : Nat) (f : Mx) (v : List UInt8) : tl r n f v 0 = List.replicate r 0 := by
  refine List.eq_replicate_iff.2 ⟨tl_len _ _ _ _ _, fun b hb => ?_⟩
  obtain ⟨q, _, rfl⟩ := List.mem_map.1 hb
  simp
theorem tl_set (r n : Nat) (f : Mx) (v : List UInt8) (i : Nat) : (tl r n f v i).set i (gdot (mrow n f i) v) = tl r n f v (i + 1) := by
  apply List.ext_getElem
  · simp [tl]
  · intro q h1 h2
    rw [List.getElem_set]
    simp only [tl, List.getElem_map, List.getElem_range]
    split
    · rename_i e; subst e; rw [if_pos (by omega)]
    · rename_i e
      by_cases e2 : q < i
      · rw [if_pos e2, if_pos (by omega)]
      · rw [if_neg e2, if_neg (by omega)]
theorem tl_end (r n : Nat) (f : Mx) (v : List UInt8) : tl r n f v r = (List.range r).map fun a => gdot (mrow n f a) v := by
  refine List.map_congr_left fun a ha => if_pos (List.mem_range.1 ha)
end
end Go.Proofs.Ytjnfhppjkadlpaa.Mt
