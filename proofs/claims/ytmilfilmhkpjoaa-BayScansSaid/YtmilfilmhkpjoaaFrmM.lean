/- What a chunk's bytes are, and that it is taken again: plain. -/
import Derived.Test.YtmilfilmhkpjoaaFrmW4
namespace Go.Proofs.Ytmilfilmhkpjoaa.FrmW
open Go Go.RowKit Go.Proofs.Ytmilfilmhkpjoaa Go.Proofs.Ytmilfilmhkpjoaa.Sp Go.Proofs.Ytmilfilmhkpjoaa.Reg Go.Proofs.Ytmilfilmhkpjoaa.CrcW Go.Proofs.Ytmilfilmhkpjoaa.CrcM

def hd8 (id n : Nat) : List UInt8 := [183, UInt8.ofNat n, 0, 0, be id 0, be id 1, be id 2, be id 3]
def be4 (x : Nat) : List UInt8 := [be x 0, be x 1, be x 2, be x 3]
def chk (id : Nat) (data : List UInt8) : Nat := (sum (hd8 id data.length ++ data)).toNat
theorem lay1_eq (id n : Nat) : lay1 id n = hd8 id n ++ List.replicate 88 0 := by
  unfold lay1 hd8
  simp only [num]
  rfl
theorem lay2_eq (id : Nat) (data : List UInt8) : lay2 id data = hd8 id data.length ++ be4 (chk id data) ++ List.replicate 84 0 := by
  unfold lay2
  rw [lay1_eq]
  have e : (hd8 id data.length ++ List.replicate 88 0).take 8 = hd8 id data.length := rfl
  rw [e]
  unfold be4 chk
  generalize (sum (hd8 id data.length ++ data)).toNat = x
  unfold hd8
  simp only [num]
  rfl
theorem frm_eq (id : Nat) (data : List UInt8) : frm id data = hd8 id data.length ++ be4 (chk id data) ++ data ++ List.replicate (84 - data.length) 0 := by
  unfold frm
  rw [lay2_eq]
  have hl : (hd8 id data.length ++ be4 (chk id data)).length = 12 := rfl
  rw [List.take_left' hl, ← List.drop_drop, List.drop_left' hl, List.drop_replicate]
theorem at_frm (id : Nat) (data : List UInt8) (k : Nat) (h : k < 12) : at' (frm id data) k = (hd8 id data.length ++ be4 (chk id data)).getD k 0 := by
  unfold at'
  rw [frm_eq, List.append_assoc, List.getD_eq_getElem?_getD, List.getD_eq_getElem?_getD, List.getElem?_append_left (by show k < 12; exact h)]
theorem dec_frm (id : Nat) (h : id < 4294967296) (data : List UInt8) : dec (frm id data) 4 = id := by
  simp only [dec]
  rw [at_frm _ _ 4 (by omega), at_frm _ _ 5 (by omega), at_frm _ _ 6 (by omega), at_frm _ _ 7 (by omega)]
  show ((((0 * 256 + (be id 0).toNat) * 256 + (be id 1).toNat) * 256 + (be id 2).toNat) * 256 + (be id 3).toNat) = id
  have hb : ∀ k, (be id k).toNat = id / 2 ^ (8 * (3 - k)) % 256 := fun k => by unfold be; rw [UInt8.toNat_ofNat']
  rw [hb, hb, hb, hb]
  rw [show (2 : Nat) ^ (8 * (3 - 0)) = 16777216 from rfl, show (2 : Nat) ^ (8 * (3 - 1)) = 65536 from rfl, show (2 : Nat) ^ (8 * (3 - 2)) = 256 from rfl, show (2 : Nat) ^ (8 * (3 - 3)) = 1 from rfl]
  omega
theorem len_frm (id : Nat) (data : List UInt8) (h : data.length ≤ 64) : (at' (frm id data) 1).toNat = data.length := by
  rw [at_frm _ _ 1 (by omega)]
  show (UInt8.ofNat data.length).toNat = data.length
  rw [UInt8.toNat_ofNat', Nat.mod_eq_of_lt (by omega)]
theorem dat_frm (id : Nat) (data : List UInt8) (h : data.length ≤ 64) : dat (frm id data) = data := by
  unfold dat
  rw [len_frm id data h, frm_eq, List.append_assoc, List.drop_left' (by rfl), List.take_left' rfl]
/-- A chunk is taken again. -/
theorem good_frm (id : Nat) (hid : id < 4294967296) (data : List UInt8) (h : data.length ≤ 64) : good (frm id data) :=
  ⟨frm_len id data h, by rw [len_frm id data h]; exact h, by rw [dec_frm id hid, dat_frm id data h]⟩
/-- What is taken is a chunk. -/
theorem good_is {b : List UInt8} (h : good b) : ∃ id data, id < 4294967296 ∧ data.length ≤ 64 ∧ b = frm id data ∧ dec b 4 = id ∧ dat b = data := by
  refine ⟨dec b 4, dat b, ?_, ?_, h.2.2.symm, rfl, rfl⟩
  · have := dec_lt b 4
    have q2 : (256 : Nat) ^ 4 = 4294967296 := by decide
    omega
  · rw [dat_len b h.1 h.2.1]; exact h.2.1
theorem good_mark {b : List UInt8} (h : good b) : at' b 0 = 183 := by
  obtain ⟨id, data, _, _, rfl, _, _⟩ := good_is h
  rw [at_frm _ _ 0 (by omega)]
  rfl
end Go.Proofs.Ytmilfilmhkpjoaa.FrmW
