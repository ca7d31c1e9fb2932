/- law1.awake; GfField, walked. -/
import Derived.Test.YtfhphbpgiickfaaGfA
namespace Go.Proofs.Ytfhphbpgiickfaa.Gf
open Go Go.RowKit Go.Proofs.Ytfhphbpgiickfaa Go.Proofs.Ytfhphbpgiickfaa.Sp Go.Proofs.Ytfhphbpgiickfaa.Reg Go.Proofs.Ytfhphbpgiickfaa.GfO
theorem k_mul : gmul 2 128 = 29 := by decide +kernel
theorem k_inv : ginv 2 = 142 := by decide +kernel
set_option maxRecDepth 100000 in
set_option maxHeartbeats 4000000 in
theorem awake_calls (w : World) : Calls Try.prog 19 #[] w fun e w' => e = .returned (.bool true) ∧ Add w w' := by
  go_enter Try.func19, Try.ntmps19
  go_wp2_with fail
  refine (new_calls w (St.init w)).mono ?_
  rintro e w1 ⟨b, rfl, s⟩
  have S := Lib.hid s
  clear s
  go_wp2_with fail
  refine (inv_calls b false 2 w1 S.out).mono ?_
  rw [k_inv, show gok 2 = true from rfl]
  rintro e w2 ⟨rfl, m2, s⟩
  have S2 := Lib.hid s
  clear s S
  go_wp2_with fail
  refine (inv_calls b m2 0 w2 S2.out).mono ?_
  rw [show ginv 0 = 0 from rfl, show gok 0 = false from rfl]
  rintro e w3 ⟨rfl, m3, s⟩
  have S3 := Lib.hid s
  clear s S2
  go_wp2_with fail
  refine (mul_calls b m3 2 128 w3 S3.out).mono ?_
  rw [k_mul]
  rintro e w4 ⟨rfl, m4, s⟩
  have S4 := Lib.hid s
  clear s S3
  go_wp2_with fail
  refine (pow_calls b m4 0 0 w4 (by omega) S4.out).mono ?_
  rw [show gpow 0 0 = 1 from rfl]
  rintro e w5 ⟨rfl, m5, s⟩
  have S5 := Lib.hid s
  clear s S4
  go_wp2_with fail
  go_ret
  exact ⟨rfl, S5.out.below⟩
theorem bits_xor_u8 (a b : UInt8) : bits .xor .u8 (a.toNat : Int) (b.toNat : Int) = ((a ^^^ b).toNat : Int) := by
  have ha : a.toNat < 256 := a.toNat_lt
  have hb : b.toNat < 256 := b.toNat_lt
  have e1 : ∀ n : Nat, n < 256 → (BitVec.ofInt 8 (n : Int)).toNat = n := fun n h => by rw [BitVec.toNat_ofInt]; omega
  have hx : a.toNat ^^^ b.toNat < 2 ^ 8 := Nat.xor_lt_two_pow (by omega) (by omega)
  show IntKind.u8.wrap ((BitVec.ofInt 8 (a.toNat : Int) ^^^ BitVec.ofInt 8 (b.toNat : Int)).toNat : Nat) = _
  rw [BitVec.toNat_xor, e1 _ ha, e1 _ hb, UInt8.toNat_xor]
  rw [IntKind.wrap_u8]
  omega
set_option maxRecDepth 100000 in
set_option maxHeartbeats 8000000 in
theorem field_walk (x y z : UInt8) (w0 : World) : Calls Try.prog 6 #[bv x, bv y, bv z] w0 fun e w' => e = .returned (.bool true) ∧ Below w0.heap.size w0 w' := by
  have hmf : ∀ (fn : Fn) (first cap : Array Value) (w : World), (Instr.makeFunc fn first cap).run Try.prog w = .ok (.func fn first cap) w := fun _ _ _ _ => rfl
  obtain ⟨p1, h1⟩ : ∃ p1, gmul x y = p1 := ⟨_, rfl⟩
  obtain ⟨p2, h3⟩ : ∃ p2, gmul y z = p2 := ⟨_, rfl⟩
  obtain ⟨p3, h4⟩ : ∃ p3, gmul x p2 = p3 := ⟨_, rfl⟩
  obtain ⟨p4, h7⟩ : ∃ p4, gmul x z = p4 := ⟨_, rfl⟩
  obtain ⟨q, hq⟩ : ∃ q, y ^^^ z = q := ⟨_, rfl⟩
  obtain ⟨r, hr⟩ : ∃ r, p1 ^^^ p4 = r := ⟨_, rfl⟩
  have M1 := Lib.hid h1
  have M2 := Lib.hid (show gmul y x = p1 by rw [gmul_comm, h1])
  have M3 := Lib.hid h3
  have M4 := Lib.hid h4
  have M5 := Lib.hid (show gmul p1 z = p3 by rw [← h1, ← gmul_assoc, h3, h4])
  have M6 := Lib.hid (show gmul x q = r by rw [← hq, gmul_xor, h1, h7, hr])
  have M7 := Lib.hid h7
  have M8 := Lib.hid (gmul_one x)
  have M9 := Lib.hid (gmul_zero x)
  have MD := Lib.hid (fun hy : y ≠ 0 => show gmul p1 (ginv y) = x by rw [← h1, gmul_div x hy])
  have k1 := bits_xor_u8 y z
  have k2 := bits_xor_u8 p1 p4
  rw [hq] at k1
  rw [hr] at k2
  clear h1 h3 h4 h7 hq hr
  by_cases hy : y = 0
  · have hy1 : ((y.toNat : Int) == 0) = true := by rw [hy]; rfl
    clear hy MD
    go_enter Try.func6, Try.ntmps6
    go_wp2_with fail
    refine (new_calls w0 (St.init w0)).mono ?_
    rintro e w1 ⟨b, rfl, s⟩
    obtain ⟨m, hm⟩ : ∃ m : Bool, m = false := ⟨_, rfl⟩
    rw [← hm] at s
    clear hm
    have S := Lib.hid s
    clear s
    go_wp2_with fail
    refine (mul_calls b m x y _ S.out).mono ?_
    rw [M1.out]
    clear S
    rintro e w2 ⟨rfl, m1, s⟩
    have S := Lib.hid s
    clear s
    go_wp2_with fail
    refine (mul_calls b m1 y x _ S.out).mono ?_
    rw [M2.out]
    clear S
    rintro e w3 ⟨rfl, m2, s⟩
    have S := Lib.hid s
    clear s
    go_wp2_with fail
    refine (mul_calls b m2 y z _ S.out).mono ?_
    rw [M3.out]
    clear S
    rintro e w4 ⟨rfl, m3, s⟩
    have S := Lib.hid s
    clear s
    go_wp2_with fail
    refine (mul_calls b m3 x p2 _ S.out).mono ?_
    rw [M4.out]
    clear S
    rintro e w5 ⟨rfl, m4, s⟩
    have S := Lib.hid s
    clear s
    go_wp2_with fail
    refine (mul_calls b m4 x y _ S.out).mono ?_
    rw [M1.out]
    clear S
    rintro e w6 ⟨rfl, m5, s⟩
    have S := Lib.hid s
    clear s
    go_wp2_with fail
    refine (mul_calls b m5 p1 z _ S.out).mono ?_
    rw [M5.out]
    clear S
    rintro e w7 ⟨rfl, m6, s⟩
    have S := Lib.hid s
    clear s
    go_wp2_with fail
    refine (mul_calls b m6 x q _ S.out).mono ?_
    rw [M6.out]
    clear S
    rintro e w8 ⟨rfl, m7, s⟩
    have S := Lib.hid s
    clear s
    go_wp2_with fail
    refine (mul_calls b m7 x y _ S.out).mono ?_
    rw [M1.out]
    clear S
    rintro e w9 ⟨rfl, m8, s⟩
    have S := Lib.hid s
    clear s
    go_wp2_with fail
    refine (mul_calls b m8 x z _ S.out).mono ?_
    rw [M7.out]
    clear S
    rintro e w10 ⟨rfl, m9, s⟩
    have S := Lib.hid s
    clear s
    go_wp2_with fail
    refine (mul_calls b m9 x 1 _ S.out).mono ?_
    rw [M8.out]
    clear S
    rintro e w11 ⟨rfl, m10, s⟩
    have S := Lib.hid s
    clear s
    go_wp2_with fail
    refine (mul_calls b m10 x 0 _ S.out).mono ?_
    rw [M9.out]
    clear S
    rintro e w12 ⟨rfl, m11, s⟩
    have S := Lib.hid s
    clear s
    go_wp2_with fail
    refine (awake_calls _).mono ?_
    rintro e w20 ⟨rfl, h20⟩
    have HB := Lib.hid (S.out.keep h20).below
    clear h20 S
    go_wp2_with fail
    go_ret
    exact ⟨rfl, HB.out⟩
  · have hy1 : ((y.toNat : Int) == 0) = false := by simpa using u8_pos hy
    have MD := Lib.hid (MD.out hy)
    have MI := Lib.hid (gmul_inv hy)
    have MO := Lib.hid (show gok y = true by simp [gok, hy])
    clear hy
    go_enter Try.func6, Try.ntmps6
    go_wp2_with fail
    refine (new_calls w0 (St.init w0)).mono ?_
    rintro e w1 ⟨b, rfl, s⟩
    obtain ⟨m, hm⟩ : ∃ m : Bool, m = false := ⟨_, rfl⟩
    rw [← hm] at s
    clear hm
    have S := Lib.hid s
    clear s
    go_wp2_with fail
    refine (mul_calls b m x y _ S.out).mono ?_
    rw [M1.out]
    clear S
    rintro e w2 ⟨rfl, m1, s⟩
    have S := Lib.hid s
    clear s
    go_wp2_with fail
    refine (mul_calls b m1 y x _ S.out).mono ?_
    rw [M2.out]
    clear S
    rintro e w3 ⟨rfl, m2, s⟩
    have S := Lib.hid s
    clear s
    go_wp2_with fail
    refine (mul_calls b m2 y z _ S.out).mono ?_
    rw [M3.out]
    clear S
    rintro e w4 ⟨rfl, m3, s⟩
    have S := Lib.hid s
    clear s
    go_wp2_with fail
    refine (mul_calls b m3 x p2 _ S.out).mono ?_
    rw [M4.out]
    clear S
    rintro e w5 ⟨rfl, m4, s⟩
    have S := Lib.hid s
    clear s
    go_wp2_with fail
    refine (mul_calls b m4 x y _ S.out).mono ?_
    rw [M1.out]
    clear S
    rintro e w6 ⟨rfl, m5, s⟩
    have S := Lib.hid s
    clear s
    go_wp2_with fail
    refine (mul_calls b m5 p1 z _ S.out).mono ?_
    rw [M5.out]
    clear S
    rintro e w7 ⟨rfl, m6, s⟩
    have S := Lib.hid s
    clear s
    go_wp2_with fail
    refine (mul_calls b m6 x q _ S.out).mono ?_
    rw [M6.out]
    clear S
    rintro e w8 ⟨rfl, m7, s⟩
    have S := Lib.hid s
    clear s
    go_wp2_with fail
    refine (mul_calls b m7 x y _ S.out).mono ?_
    rw [M1.out]
    clear S
    rintro e w9 ⟨rfl, m8, s⟩
    have S := Lib.hid s
    clear s
    go_wp2_with fail
    refine (mul_calls b m8 x z _ S.out).mono ?_
    rw [M7.out]
    clear S
    rintro e w10 ⟨rfl, m9, s⟩
    have S := Lib.hid s
    clear s
    go_wp2_with fail
    refine (mul_calls b m9 x 1 _ S.out).mono ?_
    rw [M8.out]
    clear S
    rintro e w11 ⟨rfl, m10, s⟩
    have S := Lib.hid s
    clear s
    go_wp2_with fail
    refine (mul_calls b m10 x 0 _ S.out).mono ?_
    rw [M9.out]
    clear S
    rintro e w12 ⟨rfl, m11, s⟩
    have S := Lib.hid s
    clear s
    go_wp2_with fail
    refine (mul_calls b m11 x y _ S.out).mono ?_
    rw [M1.out]
    clear S
    rintro e w13 ⟨rfl, m12, s⟩
    have S := Lib.hid s
    clear s
    go_wp2_with fail
    refine (div_calls b m12 p1 y _ S.out).mono ?_
    rw [MD.out, MO.out]
    clear S
    rintro e w14 ⟨rfl, m13, s⟩
    have S := Lib.hid s
    clear s
    go_wp2_with fail
    refine (inv_calls b m13 y _ S.out).mono ?_
    rw [MO.out]
    clear S
    rintro e w15 ⟨rfl, m14, s⟩
    have S := Lib.hid s
    clear s
    go_wp2_with fail
    refine (mul_calls b m14 y (ginv y) _ S.out).mono ?_
    rw [MI.out]
    clear S
    rintro e w16 ⟨rfl, m15, s⟩
    have S := Lib.hid s
    clear s
    go_wp2_with fail
    refine (awake_calls _).mono ?_
    rintro e w20 ⟨rfl, h20⟩
    have HB := Lib.hid (S.out.keep h20).below
    clear h20 S
    go_wp2_with fail
    go_ret
    exact ⟨rfl, HB.out⟩
end Go.Proofs.Ytfhphbpgiickfaa.Gf
