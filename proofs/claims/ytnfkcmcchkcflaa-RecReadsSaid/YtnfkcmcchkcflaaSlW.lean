/- The walks of the library's functions on slices of bytes: Clone. -/
import Derived.Test.YtnfkcmcchkcflaaSp
import Derived.Test.YtnfkcmcchkcflaaReg
import Derived.Test.YtnfkcmcchkcflaaRows
namespace Go.Proofs.Ytnfkcmcchkcflaa.SlW
open Go Go.RowKit Go.Proofs.Ytnfkcmcchkcflaa Go.Proofs.Ytnfkcmcchkcflaa.Sp Go.Proofs.Ytnfkcmcchkcflaa.Reg

theorem tB : SlT Try.prog 32 5 1 1 (.int .u8 0) := ⟨Try.underlying32, info_parts (by kernel_rfl), rfl, by decide⟩
theorem mixed : Try.prog.follows .mixedOrders = true := by kernel_rfl
/-- A new row of these bytes is handed back, nil where 'isnil' says so. -/
def NewB (B : Nat) (w0 : World) (R : HP) (bs : List UInt8) (isnil : Prop) (e : Ending) (w' : World) : Prop :=
  ∃ v', e = .returned v' ∧ St B w0 w' (row 5 1 v' bs.length (bvs bs) * R) ∧ (v' = .slice none 0 0 ↔ isnil)

/-- Bytes are handed back, in new memory. -/
def RetBS (w : World) (bs : List UInt8) (e : Ending) (w' : World) : Prop := ∃ v', e = .returned v' ∧ Add w w' ∧ BS w' v' bs
/-- The same, and true. -/
def RetBSok (w : World) (bs : List UInt8) (e : Ending) (w' : World) : Prop := ∃ v', e = .returned (.tuple #[v', .bool true]) ∧ Add w w' ∧ BS w' v' bs
/-- Nothing, and false. -/
def RetNo (w : World) (e : Ending) (w' : World) : Prop := e = .returned (.tuple #[.slice none 0 0, .bool false]) ∧ Add w w'
end Go.Proofs.Ytnfkcmcchkcflaa.SlW
