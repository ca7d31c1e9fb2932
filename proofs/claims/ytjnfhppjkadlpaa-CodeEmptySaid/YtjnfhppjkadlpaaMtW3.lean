/- mat's Mul, walked. -/
import Derived.Test.YtjnfhppjkadlpaaMtW2
namespace Go.Proofs.Ytjnfhppjkadlpaa.Mt
open Go Go.RowKit Go.Proofs.Ytjnfhppjkadlpaa Go.Proofs.Ytjnfhppjkadlpaa.Sp Go.Proofs.Ytjnfhppjkadlpaa.Reg Go.Proofs.Ytjnfhppjkadlpaa.Rd Go.Proofs.Ytjnfhppjkadlpaa.Gf
theorem exec_make1 {P : Program} {ρ : Operand → Value} {o : Oper} {w : World} {t e : TypeId} {l c : Operand} {bytes : Nat} {z : Value} (hop : o.op = .makeSlice t l c) (T : SlT P t e 1 bytes z) (n : Nat) (hl : ρ l = .int .i64 (n : Int)) (hc : ρ c = .int .i64 (n : Int))
    (h63 : n ≤ maxLen) (hb : bytes * n ≤ 281474976710656) : (execOp ρ o).run P w = .ok (.value (.slice (some ⟨w.heap.size, 0, none⟩) n n)) (w.alloc (.cells (madeCells z.cells (n * 1)) e)) := by
  obtain ⟨hrun, -⟩ := run_makeSlice_st (P := P) (w0 := w) T .i64 .i64 n n (Nat.le_refl _) h63 hb (St.init w)
  simp [execOp, hop, hl, hc, hrun, Result.andThen]
section
variable {B : Nat} {w0 : World} {R : HP}
/-- While the product's struct is made. -/
def MJ (B : Nat) (w0 : World) (H fb r c : Nat) (X : HP) (j : Nat) (w : World) : Prop := match j with
  | 0 => w.heap.size = H ∧ St B w0 w X
  | 1 => w.heap.size = H + 1 ∧ St B w0 w (row 5 1 (.slice (some ⟨H, 0, none⟩) (r * c) (r * c)) (r * c) (bvs (cl r c fun _ _ => 0)) * X)
  | _ => St B w0 w (mo (H + 1) H (r * c) fb r c (fun _ _ => 0) * X)
theorem MJ_x {H fb r c : Nat} {X : HP} {j : Nat} {w : World} (h : MJ B w0 H fb r c X j w) : ∃ Y, St B w0 w (X * Y) := by
  match j, h with
  | 0, h => exact ⟨emp, h.2.eq (sep_emp _).symm⟩
  | 1, h => exact ⟨_, h.2.eq (sep_comm _ _)⟩
  | _ + 2, h => exact ⟨_, St.eq (sep_comm _ _) h⟩
theorem via {g : FuncId} {args : Array Value} {v : Value} {w : World} {P Q : HP} (e : P = Q) (s : St B w0 w P) (hc : St B w0 w Q → Calls Try.prog g args w (RetG B w0 Q v)) : Calls Try.prog g args w (RetG B w0 P v) :=
  (hc (s.eq e)).mono fun _ _ ⟨h1, h2⟩ => ⟨h1, h2.eq e.symm⟩
theorem cells2 {b1 g1 k1 fb r n : Nat} {f : Mx} {b2 g2 k2 fb2 c : Nat} {h : Mx} {Z Y : HP} {w : World} (s : St B w0 w (fx fb * (mo b1 g1 k1 fb r n f * (mo b2 g2 k2 fb2 n c h * Z)) * Y)) :
    (∃ Y', St B w0 w (mo b1 g1 k1 fb r n f * Y')) ∧ ∃ Y', St B w0 w (mo b2 g2 k2 fb2 n c h * Y') :=
  ⟨⟨fx fb * (mo b2 g2 k2 fb2 n c h * Z) * Y, s.eq (by ac_rfl)⟩, ⟨fx fb * (mo b1 g1 k1 fb r n f * Z) * Y, s.eq (by ac_rfl)⟩⟩
end
end Go.Proofs.Ytjnfhppjkadlpaa.Mt
