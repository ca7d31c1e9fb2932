/- An argument that is an array of three numbers, opened. No condition. -/
import Derived.Test.YtkkkncchinejmaaArg
import Derived.Laws.IdiomArrays
namespace Go.Proofs.Ytkkkncchinejmaa.Sp
open Go Go.RowKit Go.ChangeShapes Go.WideShapes Go.ChangeAt
theorem arr3 {α : Type} {cs : Array α} (h : cs.size = 3) : ∃ c0 c1 c2, cs = #[c0, c1, c2] := by
  obtain ⟨l⟩ := cs
  match l, h with
  | [a, b, c], _ => exact ⟨a, b, c, rfl⟩
theorem open_arr3 {H : Type} {enc : TypeId × Value → H} {P : Program} {W : World} {r : Reach} {b0 base : Nat} {spare : Nat → Bool} {held : Bool} {t e : TypeId} {v : Value} {d : DataW H} {ps : List MemPlace}
    (ht : P.underlying t = some (.array 3 e)) (he : P.underlying e = some (.int .i64)) (hce : P.cellsOf e = 1) (hct : P.cellsOf t = 3) (hval : Value.okWide P W r b0 t v) (hd : DataW.Trod enc P W base spare held t v d ps) :
    ∃ n0 n1 n2, v = .agg #[.int .i64 n0, .int .i64 n1, .int .i64 n2] ∧ (Lit.int .i64 n0).wf = true ∧ (Lit.int .i64 n1).wf = true ∧ (Lit.int .i64 n2).wf = true := by
  simp only [Value.okWide, ht] at hval
  obtain ⟨cs, rfl, hs, -⟩ := hval
  rw [hct] at hs
  obtain ⟨c0, c1, c2, rfl⟩ := arr3 hs
  obtain ⟨fuel, hf⟩ := hd
  obtain ⟨y0, y1, y2, n, -, h0, h1, h2⟩ := trod_array3 ht hce hf
  obtain ⟨n0, e0, -, w0⟩ := DataW.trod_int he h0
  obtain ⟨n1, e1, -, w1⟩ := DataW.trod_int he h1
  obtain ⟨n2, e2, -, w2⟩ := DataW.trod_int he h2
  simp at e0 e1 e2
  subst e0; subst e1; subst e2
  exact ⟨n0, n1, n2, rfl, w0, w1, w2⟩
end Go.Proofs.Ytkkkncchinejmaa.Sp
