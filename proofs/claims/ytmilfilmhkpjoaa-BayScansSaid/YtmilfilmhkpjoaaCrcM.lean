/- The check as plain mathematics: a register of 32 bits; linearity; when one or two bits turn. No program, no condition. -/
import Derived.Laws.BitsAllLaws
import Derived.WalkKit
namespace Go.Proofs.Ytmilfilmhkpjoaa.CrcM
open Go

def poly : BitVec 32 := 0x82f63b78#32
/-- One bit's step. -/
def T (x : BitVec 32) : BitVec 32 := (x >>> 1) ^^^ (if x.getLsbD 0 then poly else 0#32)
def Tn : Nat → BitVec 32 → BitVec 32
  | 0, x => x
  | n + 1, x => Tn n (T x)
def ext (c : UInt8) : BitVec 32 := BitVec.ofNat 32 c.toNat
def stepB (r : BitVec 32) (c : UInt8) : BitVec 32 := Tn 8 (r ^^^ ext c)
def fold (r : BitVec 32) (l : List UInt8) : BitVec 32 := l.foldl stepB r
def ones : BitVec 32 := 0xffffffff#32
def sum (l : List UInt8) : BitVec 32 := fold ones l ^^^ ones

theorem Tn_succ (n : Nat) (x : BitVec 32) : Tn (n + 1) x = T (Tn n x) := by
  induction n generalizing x with
  | zero => rfl
  | succ n ih => rw [Tn, ih]; rfl
theorem Tn_add (m n : Nat) (x : BitVec 32) : Tn (m + n) x = Tn n (Tn m x) := by
  induction m generalizing x with
  | zero => simp [Tn]
  | succ m ih => rw [Nat.succ_add, Tn, ih]; rfl
theorem T_xor (x y : BitVec 32) : T (x ^^^ y) = T x ^^^ T y := by
  unfold T
  rw [BitVec.ushiftRight_xor_distrib, BitVec.getLsbD_xor]
  cases x.getLsbD 0 <;> cases y.getLsbD 0 <;> simp [BitVec.xor_assoc]
  · exact BitVec.xor_comm _ _
  · rw [BitVec.xor_comm poly (y >>> 1 ^^^ poly), BitVec.xor_assoc, BitVec.xor_self, BitVec.xor_zero]
theorem Tn_xor (n : Nat) (x y : BitVec 32) : Tn n (x ^^^ y) = Tn n x ^^^ Tn n y := by
  induction n generalizing x y with
  | zero => rfl
  | succ n ih => rw [Tn, T_xor, ih]; rfl
theorem T_zero : T 0#32 = 0#32 := by decide
theorem Tn_zero (n : Nat) : Tn n 0#32 = 0#32 := by
  induction n with
  | zero => rfl
  | succ n ih => rw [Tn, T_zero, ih]
theorem T_eq_zero (x : BitVec 32) (h : T x = 0#32) : x = 0#32 := by
  unfold T at h
  by_cases hx : x.getLsbD 0 = true
  · rw [if_pos hx] at h
    have h31 := congrArg (fun z : BitVec 32 => z.getLsbD 31) h
    simp at h31
    exact absurd h31 (by decide)
  · rw [if_neg hx] at h
    rw [BitVec.xor_zero] at h
    apply BitVec.eq_of_getLsbD_eq
    intro i hi
    cases i with
    | zero => simpa using hx
    | succ i =>
      have := congrArg (fun z : BitVec 32 => z.getLsbD i) h
      simpa [BitVec.getLsbD_ushiftRight, Nat.add_comm] using this
theorem T_inj (x y : BitVec 32) (h : T x = T y) : x = y := by
  have : T (x ^^^ y) = 0#32 := by rw [T_xor, h, BitVec.xor_self]
  have := T_eq_zero _ this
  exact BitVec.xor_eq_zero_iff.1 this
theorem Tn_inj (n : Nat) (x y : BitVec 32) (h : Tn n x = Tn n y) : x = y := by
  induction n generalizing x y with
  | zero => exact h
  | succ n ih => exact T_inj _ _ (ih _ _ h)
theorem stepB_xor (r s : BitVec 32) (c d : UInt8) : stepB (r ^^^ s) (c ^^^ d) = stepB r c ^^^ stepB s d := by
  unfold stepB
  rw [← Tn_xor]
  congr 1
  have : ext (c ^^^ d) = ext c ^^^ ext d := by
    unfold ext
    apply BitVec.eq_of_toNat_eq
    simp [UInt8.toNat_xor]
  rw [this]
  ac_rfl
theorem fold_nil (r : BitVec 32) : fold r [] = r := rfl
theorem fold_cons (r : BitVec 32) (c : UInt8) (l : List UInt8) : fold r (c :: l) = fold (stepB r c) l := rfl
theorem fold_append (r : BitVec 32) (a b : List UInt8) : fold r (a ++ b) = fold (fold r a) b := by simp [fold, List.foldl_append]
/-- The sum of two rows of one length. -/
def xorL (a b : List UInt8) : List UInt8 := List.zipWith (· ^^^ ·) a b
theorem fold_xor (a b : List UInt8) (h : a.length = b.length) (r s : BitVec 32) : fold (r ^^^ s) (xorL a b) = fold r a ^^^ fold s b := by
  induction a generalizing b r s with
  | nil => cases b with
    | nil => rfl
    | cons d b => simp at h
  | cons c a ih => cases b with
    | nil => simp at h
    | cons d b =>
      simp only [xorL, List.zipWith_cons_cons, fold_cons]
      rw [stepB_xor]
      exact ih b (by simpa using h) _ _
theorem fold_zeros (n : Nat) (r : BitVec 32) : fold r (List.replicate n 0) = Tn (8 * n) r := by
  induction n generalizing r with
  | zero => rfl
  | succ n ih =>
    rw [List.replicate_succ, fold_cons, ih, Nat.mul_succ, Nat.add_comm, Tn_add]
    congr 1
    unfold stepB
    congr 1
    have : ext 0 = 0#32 := by decide
    rw [this, BitVec.xor_zero]
theorem sum_xor (a b : List UInt8) (h : a.length = b.length) : sum a ^^^ sum b ^^^ sum (List.replicate a.length 0) = sum (xorL a b) := by
  have e : fold ones (xorL a b) = fold ones a ^^^ fold 0#32 b := by
    have := fold_xor a b h ones 0#32
    rwa [BitVec.xor_zero] at this
  have e2 : fold ones (xorL b (List.replicate a.length 0)) = fold 0#32 b ^^^ fold ones (List.replicate a.length 0) := by
    have := fold_xor b (List.replicate a.length 0) (by simp [h]) 0#32 ones
    rwa [BitVec.zero_xor] at this
  have e3 : xorL b (List.replicate a.length 0) = b := by
    unfold xorL
    apply List.ext_getElem
    · simp [h]
    · intro i h1 h2; simp
  rw [e3] at e2
  unfold sum
  rw [e, e2]
  have c : ∀ p q s o : BitVec 32, p ^^^ o ^^^ (q ^^^ s ^^^ o) ^^^ (s ^^^ o) = p ^^^ q ^^^ o := by
    intro p q s o
    have h1 : p ^^^ o ^^^ (q ^^^ s ^^^ o) ^^^ (s ^^^ o) = p ^^^ q ^^^ (o ^^^ o) ^^^ (s ^^^ s) ^^^ o := by ac_rfl
    rw [h1]; simp
  rw [c]
/-- A turned bit. -/
def bitAt (n i : Nat) : List UInt8 := (List.replicate n 0).set (i / 8) (UInt8.ofNat (2 ^ (i % 8)))
theorem pow8 : ∀ j : Fin 8, Tn 8 (ext (UInt8.ofNat (2 ^ j.val))) = Tn (15 - j.val) 0x80#32 := by decide +kernel
theorem fold_bitAt (n i : Nat) (h : i < 8 * n) : fold 0#32 (bitAt n i) = Tn (8 * (n - i / 8) + 7 - i % 8) 0x80#32 := by
  have hk : i / 8 < n := by omega
  have e : bitAt n i = List.replicate (i / 8) 0 ++ UInt8.ofNat (2 ^ (i % 8)) :: List.replicate (n - i / 8 - 1) 0 := by
    unfold bitAt
    have : List.replicate n (0 : UInt8) = List.replicate (i / 8) 0 ++ 0 :: List.replicate (n - i / 8 - 1) 0 := by
      rw [← List.replicate_succ, List.replicate_append_replicate]
      congr 1; omega
    rw [this, List.set_append]
    simp
  rw [e, fold_append, fold_zeros, Tn_zero, fold_cons, fold_zeros]
  unfold stepB
  rw [BitVec.zero_xor, pow8 ⟨i % 8, by omega⟩, ← Tn_add]
  congr 1
  simp only
  omega
/-- Does the register come back to where it began within so many steps? -/
def back : Nat → BitVec 32 → Bool
  | 0, _ => false
  | n + 1, x => T x == 0x80#32 || back n (T x)
theorem back_no (n : Nat) (x : BitVec 32) (h : back n x = false) : ∀ d, 0 < d → d ≤ n → Tn d x ≠ 0x80#32 := by
  induction n generalizing x with
  | zero => intro d h0 h1; omega
  | succ n ih =>
    simp only [back, Bool.or_eq_false_iff, beq_eq_false_iff_ne] at h
    intro d h0 h1
    obtain ⟨d, rfl⟩ : ∃ k, d = k + 1 := ⟨d - 1, by omega⟩
    rw [Tn]
    cases d with
    | zero => exact h.1
    | succ d => exact ih _ h.2 (d + 1) (by omega) (by omega)
set_option maxRecDepth 100000 in
theorem never_back : back 700 0x80#32 = false := by decide +kernel
theorem Tn_unlike (a b : Nat) (h : a < b) (hb : b ≤ 700) : Tn a 0x80#32 ≠ Tn b 0x80#32 := by
  intro e
  have : Tn a 0x80#32 = Tn a (Tn (b - a) 0x80#32) := by rw [← Tn_add, Nat.sub_add_cancel (by omega)]; exact e
  exact back_no 700 _ never_back (b - a) (by omega) (by omega) (Tn_inj a _ _ this).symm
theorem Tn_nonzero (a : Nat) : Tn a 0x80#32 ≠ 0#32 := by
  intro e
  rw [← Tn_zero a] at e
  exact absurd (Tn_inj a _ _ e) (by decide)
theorem sum_inj (a b : List UInt8) : sum a = sum b ↔ fold ones a = fold ones b := by
  unfold sum
  constructor
  · intro h
    have := congrArg (· ^^^ ones) h
    simpa [BitVec.xor_assoc] using this
  · intro h; rw [h]
theorem sum_turn (b e : List UInt8) (h : b.length = e.length) : sum (xorL b e) = sum b ↔ fold 0#32 e = 0#32 := by
  rw [sum_inj]
  have := fold_xor b e h ones 0#32
  rw [BitVec.xor_zero] at this
  rw [this]
  constructor
  · intro h
    have h2 := congrArg (fold ones b ^^^ ·) h
    simp [← BitVec.xor_assoc] at h2
    exact h2
  · intro h; rw [h, BitVec.xor_zero]
theorem turn_one (b : List UInt8) (i : Nat) (hi : i < 8 * b.length) : sum (xorL b (bitAt b.length i)) ≠ sum b := by
  intro h
  rw [sum_turn _ _ (by simp [bitAt])] at h
  rw [fold_bitAt _ _ hi] at h
  exact Tn_nonzero _ h
theorem turn_two (b : List UInt8) (i k : Nat) (hb : b.length ≤ 80) (hi : i < 8 * b.length) (hk : k < 8 * b.length) :
    sum (xorL (xorL b (bitAt b.length i)) (bitAt b.length k)) = sum b ↔ i = k := by
  have ea : xorL (xorL b (bitAt b.length i)) (bitAt b.length k) = xorL b (xorL (bitAt b.length i) (bitAt b.length k)) := by
    unfold xorL
    apply List.ext_getElem
    · simp [bitAt]
    · intro j h1 h2; simp [UInt8.xor_assoc]
  have hl : ∀ j, (bitAt b.length j).length = b.length := fun j => by simp [bitAt]
  have hx : ∀ p q : List UInt8, (xorL p q).length = min p.length q.length := fun p q => by simp [xorL]
  rw [ea, sum_turn _ _ (by rw [hx, hl, hl]; simp)]
  have := fold_xor (bitAt b.length i) (bitAt b.length k) (by rw [hl, hl]) 0#32 0#32
  rw [BitVec.xor_zero] at this
  rw [this, fold_bitAt _ _ hi, fold_bitAt _ _ hk, BitVec.xor_eq_zero_iff]
  constructor
  · intro h
    by_cases hlt : 8 * (b.length - i / 8) + 7 - i % 8 < 8 * (b.length - k / 8) + 7 - k % 8
    · exact absurd h (Tn_unlike _ _ hlt (by omega))
    · by_cases hgt : 8 * (b.length - k / 8) + 7 - k % 8 < 8 * (b.length - i / 8) + 7 - i % 8
      · exact absurd h.symm (Tn_unlike _ _ hgt (by omega))
      · omega
  · rintro rfl; rfl
theorem zeros_unlike : ∀ n : Fin 33, 1 ≤ n.val → sum (List.replicate n.val 0) ≠ sum (List.replicate (n.val + 1) 0) := by decide +kernel
theorem known : sum [49, 50, 51, 52, 53, 54, 55, 56, 57] = 0xe3069283#32 := by decide +kernel
theorem known_int : ((sum [49, 50, 51, 52, 53, 54, 55, 56, 57]).toNat : Int) = 3808858755 := by rw [known]; rfl
theorem sum_nil : sum [] = 0#32 := by decide

theorem set_turn (l : List UInt8) (i : Nat) (h : i / 8 < l.length) : l.set (i / 8) (l[i / 8] ^^^ UInt8.ofNat (2 ^ (i % 8))) = xorL l (bitAt l.length i) := by
  unfold xorL bitAt
  apply List.ext_getElem
  · simp
  · intro j h1 h2
    have hj : j < l.length := by simpa using h1
    simp only [List.getElem_set, List.getElem_zipWith, List.getElem_replicate]
    by_cases e : i / 8 = j
    · subst e; simp
    · simp [e]
theorem bit_int (b : UInt8) (j : Nat) : Go.bits .xor .u8 (b.toNat : Int) (2 ^ (j % 8) % 256) = ((b ^^^ UInt8.ofNat (2 ^ (j % 8))).toNat : Int) := by
  have hb := b.toNat_lt
  have h2 : 2 ^ (j % 8) < 256 := Nat.pow_lt_pow_right (a := 2) (by decide) (show j % 8 < 8 by omega)
  have e : ((2 : Int) ^ (j % 8) % 256) = ((2 ^ (j % 8) : Nat) : Int) := by
    have : ((2 : Int) ^ (j % 8)) = ((2 ^ (j % 8) : Nat) : Int) := by simp
    rw [this]
    generalize (2 ^ (j % 8) : Nat) = n at h2
    omega
  rw [e, u8_xor_nat _ _ (by omega) h2, UInt8.toNat_xor, UInt8.toNat_ofNat', Nat.mod_eq_of_lt h2]

theorem xorL_step (x y : List UInt8) (n k : Nat) (hk : k < n) (hx : n ≤ x.length) (hy : n ≤ y.length) :
    (xorL (x.take k) (y.take k) ++ List.replicate (n - k) 0).set k (x[k] ^^^ y[k]) = xorL (x.take (k + 1)) (y.take (k + 1)) ++ List.replicate (n - (k + 1)) 0 := by
  have hl : (xorL (x.take k) (y.take k)).length = k := by simp [xorL]; omega
  rw [List.set_append_right _ _ (by omega), hl, Nat.sub_self]
  have e1 : List.replicate (n - k) (0 : UInt8) = 0 :: List.replicate (n - (k + 1)) 0 := by rw [← List.replicate_succ]; congr 1; omega
  rw [e1, List.set_cons_zero, List.take_succ_eq_append_getElem (by omega), List.take_succ_eq_append_getElem (by omega)]
  unfold xorL
  rw [List.zipWith_append (by simp; omega)]
  simp

/-! ### the model's arithmetic -/
theorem T_int (x : BitVec 32) : Go.bits .xor .u32 ((x.toNat : Int) / 2) ((2197175160 * Go.bits .and .u32 (x.toNat : Int) 1) % 4294967296) = ((T x).toNat : Int) := by
  have hx := x.isLt
  have e1 : Go.bits .and .u32 (x.toNat : Int) 1 = ((x.toNat % 2 : Nat) : Int) := by
    have := u32_and_nat x.toNat 1 hx (by omega)
    rw [nat_mask1] at this
    exact this
  rw [e1]
  have hb : x.getLsbD 0 = decide (x.toNat % 2 = 1) := by simp [BitVec.getLsbD, Nat.testBit_zero]
  have e2 : ((x.toNat : Int) / 2) = ((x.toNat / 2 : Nat) : Int) := by omega
  have e3 : (2197175160 * ((x.toNat % 2 : Nat) : Int)) % 4294967296 = (((if x.getLsbD 0 then poly else 0#32).toNat : Nat) : Int) := by
    rw [hb]
    have : x.toNat % 2 = 0 ∨ x.toNat % 2 = 1 := by omega
    rcases this with h | h <;> rw [h] <;> decide
  rw [e2, e3, u32_xor_nat _ _ (by omega) (BitVec.isLt _)]
  unfold T
  rw [BitVec.toNat_xor, BitVec.toNat_ushiftRight, Nat.shiftRight_eq_div_pow]
theorem xor_int (x y : BitVec 32) : Go.bits .xor .u32 (x.toNat : Int) (y.toNat : Int) = ((x ^^^ y).toNat : Int) := by
  rw [u32_xor_nat _ _ x.isLt y.isLt, BitVec.toNat_xor]
theorem ext_toNat (c : UInt8) : (ext c).toNat = c.toNat := by
  have := c.toNat_lt
  unfold ext
  rw [BitVec.toNat_ofNat, Nat.mod_eq_of_lt (by omega)]

end Go.Proofs.Ytmilfilmhkpjoaa.CrcM
