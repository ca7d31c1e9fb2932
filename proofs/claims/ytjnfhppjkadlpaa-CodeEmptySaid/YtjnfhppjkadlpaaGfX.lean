/- The field's methods as calls that leave all that is owned as it is (the tables' state behind an 'exists'); Dot, walked. -/
import Derived.Test.YtjnfhppjkadlpaaGfR
import Derived.Test.YtjnfhppjkadlpaaRo
import Derived.Test.YtjnfhppjkadlpaaRd
namespace Go.Proofs.Ytjnfhppjkadlpaa.Gf
open Go Go.RowKit Go.Proofs.Ytjnfhppjkadlpaa Go.Proofs.Ytjnfhppjkadlpaa.Sp Go.Proofs.Ytjnfhppjkadlpaa.Reg Go.Proofs.Ytjnfhppjkadlpaa.Rd
/-- A field, its tables made or not. -/
def fx (b : Nat) : HP := exi fun m => fo b m
/-- A value, and all that is owned as it was. -/
def RetG (B : Nat) (w0 : World) (H : HP) (v : Value) (e : Ending) (w' : World) : Prop := e = .returned v ∧ St B w0 w' H
section
variable {B : Nat} {w0 : World} {R : HP}
theorem retF {b : Nat} {v : Value} {e : Ending} {w' : World} (h : RetF B w0 b R v e w') : RetG B w0 (fx b * R) v e w' := ⟨h.1, St.ex.2 h.2⟩
theorem newx (w : World) (s : St B w0 w R) : Calls Try.prog 12 #[] w fun e w' => ∃ b, e = .returned (.pointer (some ⟨b, 0, none⟩)) ∧ St B w0 w' (fx b * R) :=
  (new_calls w s).mono fun _ _ ⟨b, h1, h2⟩ => ⟨b, h1, St.ex.2 ⟨false, h2⟩⟩
theorem mulx (b : Nat) (x y : UInt8) (w : World) (s : St B w0 w (fx b * R)) : Calls Try.prog 65 #[.pointer (some ⟨b, 0, none⟩), bv x, bv y] w (RetG B w0 (fx b * R) (bv (gmul x y))) := by
  obtain ⟨m, s⟩ := St.ex.1 s
  exact (mul_calls b m x y w s).mono fun _ _ => retF
theorem invx (b : Nat) (x : UInt8) (w : World) (s : St B w0 w (fx b * R)) : Calls Try.prog 40 #[.pointer (some ⟨b, 0, none⟩), bv x] w (RetG B w0 (fx b * R) (.tuple #[bv (ginv x), .bool (gok x)])) := by
  obtain ⟨m, s⟩ := St.ex.1 s
  exact (inv_calls b m x w s).mono fun _ _ => retF
theorem bits_xor_u8' (a b : UInt8) : bits .xor .u8 (a.toNat : Int) (b.toNat : Int) = ((a ^^^ b).toNat : Int) := by
  have ha : a.toNat < 256 := a.toNat_lt
  have hb : b.toNat < 256 := b.toNat_lt
  have e1 : ∀ n : Nat, n < 256 → (BitVec.ofInt 8 (n : Int)).toNat = n := fun n h => by rw [BitVec.toNat_ofInt]; omega
  have hx : a.toNat ^^^ b.toNat < 2 ^ 8 := Nat.xor_lt_two_pow (by omega) (by omega)
  show IntKind.u8.wrap ((BitVec.ofInt 8 (a.toNat : Int) ^^^ BitVec.ofInt 8 (b.toNat : Int)).toNat : Nat) = _
  rw [BitVec.toNat_xor, e1 _ ha, e1 _ hb, UInt8.toNat_xor]
  rw [IntKind.wrap_u8]
  omega
end
end Go.Proofs.Ytjnfhppjkadlpaa.Gf
