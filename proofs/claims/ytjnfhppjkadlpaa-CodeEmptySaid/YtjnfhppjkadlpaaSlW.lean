/- The walks of the library's functions on slices of bytes: Clone. -/
import Derived.Test.YtjnfhppjkadlpaaSp
import Derived.Test.YtjnfhppjkadlpaaReg
import Derived.Test.YtjnfhppjkadlpaaRows
namespace Go.Proofs.Ytjnfhppjkadlpaa.SlW
open Go Go.RowKit Go.Proofs.Ytjnfhppjkadlpaa Go.Proofs.Ytjnfhppjkadlpaa.Sp Go.Proofs.Ytjnfhppjkadlpaa.Reg

theorem tB : SlT Try.prog 32 5 1 1 (.int .u8 0) := ⟨Try.underlying32, info_parts (by kernel_rfl), rfl, by decide⟩
theorem mixed : Try.prog.follows .mixedOrders = true := by kernel_rfl
/-- A new row of these bytes is handed back, nil where 'isnil' says so. -/
def NewB (B : Nat) (w0 : World) (R : HP) (bs : List UInt8) (isnil : Prop) (e : Ending) (w' : World) : Prop :=
  ∃ v', e = .returned v' ∧ St B w0 w' (row 5 1 v' bs.length (bvs bs) * R) ∧ (v' = .slice none 0 0 ↔ isnil)

set_option maxHeartbeats 400000 in
theorem clone_calls (a : Option Addr) (c : Nat) (bs : List UInt8) (w : World) (h : BS w (.slice a bs.length c) bs) (hsz : bs.length ≤ 140737488355328) {B : Nat} {w0 : World} {R : HP} (s : St B w0 w R) :
    Calls Try.prog 45 #[.slice a bs.length c] w (NewB B w0 R bs (a = none)) := by
  obtain ⟨-, h2, h3, h4, h5⟩ := h.rd
  have heq := fun (w : World) (a : Option Addr) (n c : Nat) => Lib.run_eql_slice_nil (P := Try.prog) w 32 5 a n c 0 0 Try.underlying32
  have S := Lib.hid s
  have H5 := Lib.hid h5
  clear s h h5
  cases a with
  | none =>
    obtain rfl : c = 0 := h4 rfl
    obtain rfl : bs = [] := List.eq_nil_of_length_eq_zero (by omega)
    go_enter Try.func45, Try.ntmps45
    go_wp2_with fail
    go_ret
    exact ⟨_, rfl, S.out.rowNil _ _, by simp⟩
  | some ad =>
    have hm : bs.length ≤ maxLen := by omega
    clear h2 h3 h4
    have s0 := Lib.hid (S.out.alloc (.cells #[] 5))
    go_enter Try.func45, Try.ntmps45
    go_wp2_with (at_builtin; go_must (refine wpl_append rfl _ _ rfl tB (s0.out.rowMk (n := 0) (cap := 0) (xs := []) (Nat.le_refl _) (Nat.zero_le _) (by simp) rfl) (some ad) bs.length c (bvs bs) rfl rfl (H5.out.alloc _) (fun e => by cases e) (by simp) (bvs_one _) (by omega) (by omega) ?_); intro v2 w2 s2 hv2; have S2 := Lib.hid s2; have V2 := Lib.hid hv2; clear s2 hv2 s0)
    go_ret
    exact ⟨v2, rfl, by simpa using S2.out, V2.out.trans (by simp)⟩
theorem clone_callsN (a : Option Addr) (n c : Nat) (bs : List UInt8) (w : World) (h : BS w (.slice a n c) bs) (hsz : n ≤ 140737488355328) {B : Nat} {w0 : World} {R : HP} (s : St B w0 w R) :
    Calls Try.prog 45 #[.slice a n c] w (NewB B w0 R bs (a = none)) := by
  obtain rfl := h.rd.1
  exact clone_calls a c bs w h hsz s
/-- Bytes are handed back, in new memory. -/
def RetBS (w : World) (bs : List UInt8) (e : Ending) (w' : World) : Prop := ∃ v', e = .returned v' ∧ Add w w' ∧ BS w' v' bs
/-- The same, and true. -/
def RetBSok (w : World) (bs : List UInt8) (e : Ending) (w' : World) : Prop := ∃ v', e = .returned (.tuple #[v', .bool true]) ∧ Add w w' ∧ BS w' v' bs
/-- Nothing, and false. -/
def RetNo (w : World) (e : Ending) (w' : World) : Prop := e = .returned (.tuple #[.slice none 0 0, .bool false]) ∧ Add w w'
end Go.Proofs.Ytjnfhppjkadlpaa.SlW
