/- The field's document's answer, plain: shift-and-add products, powers. Program-free. -/
import Derived.Test.YtjnfhppjkadlpaaGfA
namespace Go.Proofs.Ytjnfhppjkadlpaa.Gf
open Go Go.RowKit Go.Proofs.Ytjnfhppjkadlpaa Go.Proofs.Ytjnfhppjkadlpaa.Sp Go.Proofs.Ytjnfhppjkadlpaa.Reg
theorem one_gmul (a : UInt8) : gmul 1 a = a := by rw [gmul_comm, gmul_one]
/-- A byte, so many times. -/
def gp (a : UInt8) : Nat → UInt8
  | 0 => 1
  | m + 1 => gmul (gp a m) a
theorem gp_add (a : UInt8) (m n : Nat) : gp a (m + n) = gmul (gp a m) (gp a n) := by
  induction n with
  | zero => exact (gmul_one _).symm
  | succ n ih => show gmul (gp a (m + n)) a = gmul (gp a m) (gmul (gp a n) a); rw [ih, gmul_assoc]
theorem gp_sq (a : UInt8) (n : Nat) : gp (gmul a a) n = gp a (2 * n) := by
  induction n with
  | zero => rfl
  | succ n ih =>
    show gmul (gp (gmul a a) n) (gmul a a) = gmul (gmul (gp a (2 * n)) a) a
    rw [ih, gmul_assoc]
theorem gp_ne {a : UInt8} (ha : a ≠ 0) (m : Nat) : gp a m = UInt8.ofNat (gexp (glog a.toNat * m)) := by
  induction m with
  | zero => rfl
  | succ m ih =>
    show gmul (gp a m) a = _
    rw [ih, gmul_ne (ofN_ne _) ha, ofN, glog_gexp', Nat.mul_succ]
    generalize glog a.toNat * m = z
    exact congrArg UInt8.ofNat (gexp_cong (by omega))
theorem gp_254 (a : UInt8) : gp a 254 = ginv a := by
  by_cases ha : a = 0
  · subst ha; exact gmul_zero _
  · rw [gp_ne ha]
    unfold ginv
    rw [if_neg ha]
    have g1 := glog_lt a.toNat a.toNat_lt
    exact congrArg UInt8.ofNat (gexp_cong (by omega))
theorem gpow_gp (a : UInt8) (n : Int) (h : n ≠ 0) (ha : a ≠ 0) : gpow a n = gp a (n % 255).toNat := by
  unfold gpow
  rw [if_neg h, if_neg ha, gp_ne ha, gexp_mod]
/-- The product with a beginning of the bits. -/
def rm (a b : UInt8) (i : Nat) : Nat := (gmul a (UInt8.ofNat (b.toNat % 2 ^ i))).toNat
theorem rm_zero (a b : UInt8) : rm a b 0 = 0 := by
  unfold rm
  rw [Nat.pow_zero, Nat.mod_one]
  show (gmul a 0).toNat = 0
  rw [gmul_zero]; rfl
theorem rm_8 (a b : UInt8) : rm a b 8 = (gmul a b).toNat := by
  unfold rm
  rw [Nat.mod_eq_of_lt (show b.toNat < 2 ^ 8 from b.toNat_lt)]
  simp
theorem glog_p2 : ∀ i, i < 8 → glog (UInt8.ofNat (2 ^ i)).toNat = i := by decide +kernel
theorem p2_ne : ∀ i, i < 8 → UInt8.ofNat (2 ^ i) ≠ 0 := by decide +kernel
theorem gmul_p2 (a : UInt8) {i : Nat} (hi : i < 8) : (gmul a (UInt8.ofNat (2 ^ i))).toNat = xtn i a.toNat := by
  rw [gmul_comm, gmul_xtn (p2_ne i hi), glog_p2 i hi]
theorem low_bits : ∀ i, i < 8 → ∀ b, b < 256 → UInt8.ofNat (b % 2 ^ (i + 1)) = if b / 2 ^ i % 2 = 1 then UInt8.ofNat (b % 2 ^ i) ^^^ UInt8.ofNat (2 ^ i) else UInt8.ofNat (b % 2 ^ i) := by decide +kernel
theorem rm_succ (a b : UInt8) {i : Nat} (hi : i < 8) : rm a b (i + 1) = if b.toNat / 2 ^ i % 2 = 1 then rm a b i ^^^ xtn i a.toNat else rm a b i := by
  unfold rm
  rw [low_bits i hi _ b.toNat_lt]
  split
  · rw [gmul_xor, UInt8.toNat_xor, gmul_p2 a hi]
  · rfl
/-- The sum of products, place by place. -/
def gdot : List UInt8 → List UInt8 → UInt8
  | a :: xs, b :: bs => gmul a b ^^^ gdot xs bs
  | _, _ => 0
theorem gdot_nil (a : List UInt8) : gdot a [] = 0 := by cases a <;> rfl
theorem gdot_comm : ∀ (a b : List UInt8), gdot a b = gdot b a
  | [], [] => rfl
  | [], _ :: _ => rfl
  | _ :: _, [] => rfl
  | a :: xs, b :: bs => by show gmul a b ^^^ gdot xs bs = gmul b a ^^^ gdot bs xs; rw [gmul_comm, gdot_comm xs bs]
theorem gdot_snoc (x y : UInt8) : ∀ (a b : List UInt8), a.length = b.length → gdot (a ++ [x]) (b ++ [y]) = gdot a b ^^^ gmul x y
  | [], [], _ => by show gmul x y ^^^ 0 = 0 ^^^ gmul x y; simp
  | a :: xs, b :: bs, h => by
    show gmul a b ^^^ gdot (xs ++ [x]) (bs ++ [y]) = gmul a b ^^^ gdot xs bs ^^^ gmul x y
    rw [gdot_snoc x y xs bs (by simpa using h), UInt8.xor_assoc]
theorem gdot_take : ∀ (a b : List UInt8) (n : Nat), min a.length b.length ≤ n → gdot (a.take n) (b.take n) = gdot a b
  | [], _, _, _ => by simp [gdot]
  | _ :: _, [], n, _ => by rw [List.take_nil, gdot_nil, gdot_nil]
  | a :: xs, b :: bs, 0, h => by simp at h
  | a :: xs, b :: bs, n + 1, h => by
    show gmul a b ^^^ gdot (xs.take n) (bs.take n) = _
    rw [gdot_take xs bs n (by simp at h; omega)]; rfl
theorem gdot_step (a b : List UInt8) (k : Nat) (ha : k < a.length) (hb : k < b.length) : gdot (a.take (k + 1)) (b.take (k + 1)) = gdot (a.take k) (b.take k) ^^^ gmul a[k] b[k] := by
  rw [List.take_succ_eq_append_getElem ha, List.take_succ_eq_append_getElem hb, gdot_snoc _ _ _ _ (by simp; omega)]
/-- Marks: what comes before the i-th. -/
def bl (f : Nat → Nat) (i : Nat) : List Bool := (List.range 256).map fun q => decide (f q < i)
theorem bl_len (f : Nat → Nat) (i : Nat) : (bl f i).length = 256 := by simp [bl]
theorem bl_get (f : Nat → Nat) (i q : Nat) (hq : q < 256) : (bl f i)[q]? = some (decide (f q < i)) := by simp [bl, hq]
theorem bl_zero (f : Nat → Nat) : bl f 0 = List.replicate 256 false := by
  refine List.eq_replicate_iff.2 ⟨bl_len f 0, fun b hb => ?_⟩
  obtain ⟨q, _, rfl⟩ := List.mem_map.1 hb
  simp
theorem bl_set (f : Nat → Nat) (i p : Nat) (hp : f p = i) (hu : ∀ q, q < 256 → f q = i → q = p) : (bl f i).set p true = bl f (i + 1) := by
  apply List.ext_getElem
  · simp [bl]
  · intro q h1 h2
    have hq : q < 256 := by simpa [bl] using h2
    rw [List.getElem_set]
    split
    · rename_i h; subst h; simp [bl, hp]
    · rename_i h
      have : f q ≠ i := fun e => h (hu q hq e).symm
      simp [bl]
      omega
/-- A row of marks. -/
abbrev bos (l : List Bool) : List Value := l.map Value.bool
theorem gpow_add {a : UInt8} (ha : a ≠ 0) (n k : Int) : gmul (gpow a n) (gpow a k) = gpow a (n + k) := by
  have e : ∀ n : Int, gpow a n = gp a (n % 255).toNat := fun n => by
    by_cases h : n = 0
    · subst h; rfl
    · exact gpow_gp a n h ha
  have per : ∀ i j : Nat, i % 255 = j % 255 → gp a i = gp a j := fun i j h => by
    rw [gp_ne ha, gp_ne ha]
    refine congrArg UInt8.ofNat (gexp_cong ?_)
    rw [Nat.mul_mod, h, ← Nat.mul_mod]
  rw [e, e, e, ← gp_add]
  exact per _ _ (by omega)
theorem gpow_255 {a : UInt8} (ha : a ≠ 0) : gpow a 255 = 1 := by rw [gpow_gp a 255 (by decide) ha]; rfl
theorem ginv_ginv {a : UInt8} (ha : a ≠ 0) : ginv a ≠ 0 ∧ ginv (ginv a) = a := by
  have h1 : ginv a ≠ 0 := fun h => by have := gmul_inv ha; rw [h, gmul_zero] at this; exact absurd this (by decide)
  refine ⟨h1, ?_⟩
  have h2 := gmul_inv h1
  have h3 := gmul_inv ha
  calc ginv (ginv a) = gmul 1 (ginv (ginv a)) := (one_gmul _).symm
    _ = gmul (gmul a (ginv a)) (ginv (ginv a)) := by rw [h3]
    _ = a := by rw [← gmul_assoc, h2, gmul_one]
theorem gpow_m1 {a : UInt8} (ha : a ≠ 0) : gpow a (-1) = ginv a := by rw [gpow_gp a _ (by decide) ha, ← gp_254]; rfl
theorem gpow_254 {a : UInt8} (ha : a ≠ 0) : gpow a 254 = ginv a := by rw [gpow_gp a _ (by decide) ha, ← gp_254]; rfl
theorem ginv_mul {a : UInt8} (ha : a ≠ 0) (b : UInt8) : gmul (ginv a) (gmul a b) = b := by rw [gmul_assoc, gmul_comm (ginv a), gmul_inv ha, one_gmul]
theorem mul_ginv {a : UInt8} (ha : a ≠ 0) (b : UInt8) : gmul a (gmul (ginv a) b) = b := by rw [gmul_assoc, gmul_inv ha, one_gmul]
/-- Of what byte a product comes. -/
def fi (a : UInt8) (q : Nat) : Nat := (gmul (ginv a) (UInt8.ofNat q)).toNat
theorem fi_mul {a : UInt8} (ha : a ≠ 0) (b : UInt8) : fi a (gmul a b).toNat = b.toNat := by
  unfold fi
  rw [UInt8.ofNat_toNat, ginv_mul ha]
theorem fi_inj {a : UInt8} (ha : a ≠ 0) (b : UInt8) (q : Nat) (hq : q < 256) (h : fi a q = b.toNat) : q = (gmul a b).toNat := by
  unfold fi at h
  rw [← UInt8.toNat_inj.1 h, mul_ginv ha, UInt8.toNat_ofNat', Nat.mod_eq_of_lt hq]
def ones (a : UInt8) (i : Nat) : Nat := if (ginv a).toNat < i then 1 else 0
/-- Of what power a byte comes. -/
def fp (q : Nat) : Nat := if q = 0 then 256 else glog q
theorem fp_exp {i : Nat} (hi : i < 255) : fp (gexp i) = i := by unfold fp; rw [if_neg (gexp_ne i), glog_gexp i hi]
theorem fp_inj {i q : Nat} (hi : i < 255) (hq : q < 256) (h : fp q = i) : q = gexp i := by
  unfold fp at h
  split at h
  · omega
  · rw [← h, gexp_glog q hq ‹_›]
theorem gexp_step (i : Nat) : gmul (UInt8.ofNat (gexp i)) 2 = UInt8.ofNat (gexp (i + 1)) := by
  rw [gmul_ne (ofN_ne _) (by decide), ofN, glog_gexp', show glog (2 : UInt8).toNat = 1 by decide +kernel]
  exact congrArg UInt8.ofNat (gexp_cong (by omega))
end Go.Proofs.Ytjnfhppjkadlpaa.Gf
