/- The walks of package frame: number; copy in an owned row. -/
import Derived.Test.YtmilfilmhkpjoaaCrcW
import Derived.Test.YtmilfilmhkpjoaaReg
import Derived.Laws.CopyRow
import Derived.Laws.IdiomCopy
import Derived.Shelf.Spec.SlicesInsert
namespace Go.Proofs.Ytmilfilmhkpjoaa.FrmW
open Go Go.RowKit Go.Proofs.Ytmilfilmhkpjoaa Go.Proofs.Ytmilfilmhkpjoaa.Sp Go.Proofs.Ytmilfilmhkpjoaa.Reg Go.Proofs.Ytmilfilmhkpjoaa.CrcW Go.Proofs.Ytmilfilmhkpjoaa.CrcM

/-- The k-th of four bytes, the highest first. -/
def be (x k : Nat) : UInt8 := UInt8.ofNat (x / 2 ^ (8 * (3 - k)))
/-- The first k of four bytes, written at off. -/
def num (l : List UInt8) (off x : Nat) : Nat → List UInt8
  | 0 => l
  | k + 1 => (num l off x k).set (off + k) (be x k)
theorem num_len (l : List UInt8) (off x : Nat) : ∀ k, (num l off x k).length = l.length
  | 0 => rfl
  | k + 1 => by unfold num; rw [List.length_set, num_len l off x k]
theorem be_val (x k : Nat) : bv (be x k) = .int .u8 ((x / 2 ^ (8 * (3 - k)) % 256 : Nat) : Int) := by
  unfold bv be
  rw [UInt8.toNat_ofNat']
set_option maxHeartbeats 800000 in
theorem number_calls (g off n c m c2 : Nat) (l : List UInt8) (x : Nat) (hx : x < 4294967296) (hoff : off + 4 ≤ l.length) (hm : 4 ≤ m) (w : World) {B : Nat} {w0 : World} {R : HP}
    (s : St B w0 w (row 5 1 (.slice (some ⟨g, 0, none⟩) n c) n (bvs l) * R)) :
    Calls Try.prog 83 #[.slice (some ⟨g, off, none⟩) m c2, .int .u32 (x : Int)] w fun e w' => e = .returned (.tuple #[]) ∧ St B w0 w' (row 5 1 (.slice (some ⟨g, 0, none⟩) n c) n (bvs (num l off x 4)) * R) := by
  have S := Lib.hid s
  clear s
  go_enter Try.func83, Try.ntmps83
  go_wp2_with fail
  go_loopw [4, 5] (fun _ v5 wr => ∃ k : Nat, k ≤ 4 ∧ v5 = .int .i64 k ∧ St B w0 wr (row 5 1 (.slice (some ⟨g, 0, none⟩) n c) n (bvs (num l off x k)) * R)) (fun _ v5 _ => 4 - (intOf v5).toNat)
  case atStart => exact ⟨0, by omega, rfl, S.out⟩
  case round =>
    obtain ⟨k, hk, rfl, hs⟩ := hrel
    obtain ⟨hn, -, -, -, -, hcell, hfree, -, hset⟩ := hs.rowB'
    have HS := Lib.hid hs
    clear hs S
    by_cases hlt : k < 4
    · have hkl : off + k < (num l off x k).length := by rw [num_len]; omega
      have hc := hcell (off + k) hkl
      have hf := hfree (off + k)
      have HSET := Lib.hid (hset (off + k) (be x k) hkl)
      have HV := Lib.hid (be_val x k)
      generalize (num l off x k)[off + k] = old at hc
      clear hcell hfree hset hkl hoff hn
      rcases (by omega : k = 0 ∨ k = 1 ∨ k = 2 ∨ k = 3) with rfl | rfl | rfl | rfl
      · have e : (Value.int .u8 ((x : Int) / 16777216)) = bv (be x 0) := by rw [HV.out]; exact congrArg (Value.int .u8) (by omega)
        try simp only [Nat.add_zero] at hc hf
        go_wp2_with fail
        go_roundw
        case rel => exact ⟨1, by omega, rfl, HSET.out⟩
        case measure => simp [intOf]
      · have e : (Value.int .u8 ((x : Int) / 65536 % 256)) = bv (be x 1) := by rw [HV.out]; exact congrArg (Value.int .u8) (by omega)
        try simp only [Nat.add_zero] at hc hf
        go_wp2_with fail
        go_roundw
        case rel => exact ⟨2, by omega, rfl, HSET.out⟩
        case measure => simp [intOf]
      · have e : (Value.int .u8 ((x : Int) / 256 % 256)) = bv (be x 2) := by rw [HV.out]; exact congrArg (Value.int .u8) (by omega)
        try simp only [Nat.add_zero] at hc hf
        go_wp2_with fail
        go_roundw
        case rel => exact ⟨3, by omega, rfl, HSET.out⟩
        case measure => simp [intOf]
      · have e : (Value.int .u8 ((x : Int) % 256)) = bv (be x 3) := by rw [HV.out]; exact congrArg (Value.int .u8) (by omega)
        try simp only [Nat.add_zero] at hc hf
        go_wp2_with fail
        go_roundw
        case rel => exact ⟨4, by omega, rfl, HSET.out⟩
        case measure => simp [intOf]
    · obtain rfl : k = 4 := by omega
      go_wp2_with fail
      go_end0
      exact ⟨rfl, HS.out⟩
end Go.Proofs.Ytmilfilmhkpjoaa.FrmW
