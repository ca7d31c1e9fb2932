/- The field's laws, plain. Program-free. -/
import Derived.Test.YtjnfhppjkadlpaaGfW
namespace Go.Proofs.Ytjnfhppjkadlpaa.Gf
open Go Go.RowKit Go.Proofs.Ytjnfhppjkadlpaa Go.Proofs.Ytjnfhppjkadlpaa.Sp Go.Proofs.Ytjnfhppjkadlpaa.Reg
theorem glog_gexp' (n : Nat) : glog (gexp n) = n % 255 := by rw [← gexp_mod]; exact glog_gexp _ (Nat.mod_lt _ (by decide))
theorem gexp_cong {m n : Nat} (h : m % 255 = n % 255) : gexp m = gexp n := by rw [← gexp_mod m, h, gexp_mod]
theorem ofN (n : Nat) : (UInt8.ofNat (gexp n)).toNat = gexp n := by rw [UInt8.toNat_ofNat', Nat.mod_eq_of_lt (gexp_lt n)]
theorem ofN_ne (n : Nat) : UInt8.ofNat (gexp n) ≠ 0 := fun h => gexp_ne n (by rw [← ofN n, h]; rfl)
theorem u8ne {a : UInt8} (h : a ≠ 0) : a.toNat ≠ 0 := fun e => h (UInt8.toNat_inj.1 (by simpa using e))
theorem gexp_log {a : UInt8} (h : a ≠ 0) : gexp (glog a.toNat) = a.toNat := gexp_glog _ a.toNat_lt (u8ne h)
theorem gmul_ne {a b : UInt8} (ha : a ≠ 0) (hb : b ≠ 0) : gmul a b = UInt8.ofNat (gexp (glog a.toNat + glog b.toNat)) := by unfold gmul; rw [if_neg (by simp [ha, hb])]
theorem gmul_zero (a : UInt8) : gmul a 0 = 0 := by simp [gmul]
theorem zero_gmul (a : UInt8) : gmul 0 a = 0 := by simp [gmul]
theorem gmul_nz {a b : UInt8} (ha : a ≠ 0) (hb : b ≠ 0) : gmul a b ≠ 0 := by rw [gmul_ne ha hb]; exact ofN_ne _
theorem gmul_comm (a b : UInt8) : gmul a b = gmul b a := by
  by_cases ha : a = 0
  · subst ha; rw [zero_gmul, gmul_zero]
  by_cases hb : b = 0
  · subst hb; rw [zero_gmul, gmul_zero]
  rw [gmul_ne ha hb, gmul_ne hb ha, Nat.add_comm]
theorem gmul_assoc (a b c : UInt8) : gmul a (gmul b c) = gmul (gmul a b) c := by
  by_cases ha : a = 0
  · subst ha; simp [zero_gmul]
  by_cases hb : b = 0
  · subst hb; simp [zero_gmul, gmul_zero]
  by_cases hc : c = 0
  · subst hc; simp [gmul_zero]
  rw [gmul_ne ha (gmul_nz hb hc), gmul_ne (gmul_nz ha hb) hc, gmul_ne ha hb, gmul_ne hb hc, ofN, ofN, glog_gexp', glog_gexp']
  exact congrArg UInt8.ofNat (gexp_cong (by omega))
theorem gmul_one (a : UInt8) : gmul a 1 = a := by
  by_cases ha : a = 0
  · subst ha; rfl
  rw [gmul_ne ha (by decide), show glog (1 : UInt8).toNat = 0 by decide +kernel, Nat.add_zero, gexp_log ha]
  simp
theorem gmul_inv {a : UInt8} (ha : a ≠ 0) : gmul a (ginv a) = 1 := by
  have hi : ginv a = UInt8.ofNat (gexp (255 - glog a.toNat)) := by unfold ginv; rw [if_neg ha]
  have g1 := glog_lt a.toNat a.toNat_lt
  rw [hi, gmul_ne ha (ofN_ne _), ofN, glog_gexp', gexp_cong (n := 0) (by omega)]
  rfl
theorem gmul_div (a : UInt8) {b : UInt8} (hb : b ≠ 0) : gmul (gmul a b) (ginv b) = a := by rw [← gmul_assoc, gmul_inv hb, gmul_one]
theorem xt_xor : ∀ x, x < 256 → ∀ y, y < 256 → xt (x ^^^ y) = xt x ^^^ xt y := by decide +kernel
def xtn : Nat → Nat → Nat
  | 0, x => x
  | k + 1, x => xt (xtn k x)
theorem xtn_lt : ∀ (k x : Nat), x < 256 → xtn k x < 256
  | 0, _, h => h
  | k + 1, x, h => xt_lt _ (xtn_lt k x h)
theorem xtn_xor (k x y : Nat) (hx : x < 256) (hy : y < 256) : xtn k (x ^^^ y) = xtn k x ^^^ xtn k y := by
  induction k with
  | zero => rfl
  | succ k ih => show xt (xtn k (x ^^^ y)) = xt (xtn k x) ^^^ xt (xtn k y); rw [ih, xt_xor _ (xtn_lt k x hx) _ (xtn_lt k y hy)]
theorem xtn_zero (k : Nat) : xtn k 0 = 0 := by
  induction k with
  | zero => rfl
  | succ k ih => show xt (xtn k 0) = 0; rw [ih]; rfl
theorem xtn_gexp (k j : Nat) : xtn k (gexp j) = gexp (j + k) := by
  induction k with
  | zero => rfl
  | succ k ih => show xt (xtn k (gexp j)) = xt (gexp (j + k)); rw [ih]
theorem gmul_xtn {a : UInt8} (ha : a ≠ 0) (x : UInt8) : (gmul a x).toNat = xtn (glog a.toNat) x.toNat := by
  by_cases hx : x = 0
  · subst hx; rw [gmul_zero]; exact (xtn_zero _).symm
  · rw [gmul_ne ha hx, ofN, ← gexp_log hx, xtn_gexp, glog_gexp']
    exact gexp_cong (by omega)
theorem gmul_xor (a b c : UInt8) : gmul a (b ^^^ c) = gmul a b ^^^ gmul a c := by
  by_cases ha : a = 0
  · subst ha; simp [zero_gmul]
  apply UInt8.toNat_inj.1
  rw [gmul_xtn ha, UInt8.toNat_xor, UInt8.toNat_xor, gmul_xtn ha, gmul_xtn ha, xtn_xor _ _ _ b.toNat_lt c.toNat_lt]
end Go.Proofs.Ytjnfhppjkadlpaa.Gf
