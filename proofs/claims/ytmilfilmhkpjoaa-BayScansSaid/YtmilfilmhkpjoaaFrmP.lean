/- Parity: the check keeps it; a chunk with one bit turned is none. Plain. -/
import Derived.Test.YtmilfilmhkpjoaaFrmM
namespace Go.Proofs.Ytmilfilmhkpjoaa.FrmW
open Go Go.RowKit Go.Proofs.Ytmilfilmhkpjoaa Go.Proofs.Ytmilfilmhkpjoaa.Sp Go.Proofs.Ytmilfilmhkpjoaa.Reg Go.Proofs.Ytmilfilmhkpjoaa.CrcW Go.Proofs.Ytmilfilmhkpjoaa.CrcM

/-- The parity of the first n bits. -/
def par : Nat → BitVec 32 → Bool
  | 0, _ => false
  | n + 1, x => (par n x) ^^ x.getLsbD n
theorem par_xor (n : Nat) (x y : BitVec 32) : par n (x ^^^ y) = (par n x ^^ par n y) := by
  induction n with
  | zero => rfl
  | succ n ih =>
    unfold par
    rw [ih, BitVec.getLsbD_xor]
    cases par n x <;> cases par n y <;> cases x.getLsbD n <;> cases y.getLsbD n <;> rfl
theorem par_shift (n : Nat) (x : BitVec 32) : (par n (x >>> 1) ^^ x.getLsbD 0) = par (n + 1) x := by
  induction n with
  | zero => rfl
  | succ n ih =>
    have e : (x >>> 1).getLsbD n = x.getLsbD (n + 1) := by rw [BitVec.getLsbD_ushiftRight, Nat.add_comm]
    rw [show par (n + 2) x = (par (n + 1) x ^^ x.getLsbD (n + 1)) from rfl, ← ih, show par (n + 1) (x >>> 1) = (par n (x >>> 1) ^^ (x >>> 1).getLsbD n) from rfl, e]
    cases par n (x >>> 1) <;> cases x.getLsbD (n + 1) <;> cases x.getLsbD 0 <;> rfl
theorem par_poly : par 32 poly = true := by decide
theorem par_T (x : BitVec 32) : par 32 (T x) = par 32 x := by
  have h33 : par 33 x = par 32 x := by
    show (par 32 x ^^ x.getLsbD 32) = _
    rw [BitVec.getLsbD_of_ge x 32 (Nat.le_refl _)]; simp
  have hs := par_shift 32 x
  rw [h33] at hs
  unfold T
  rw [par_xor, ← hs]
  cases x.getLsbD 0
  · have h0 : par 32 0#32 = false := by decide
    simp [h0]
  · simp [par_poly]
theorem par_Tn (n : Nat) (x : BitVec 32) : par 32 (Tn n x) = par 32 x := by
  induction n generalizing x with
  | zero => rfl
  | succ n ih => rw [Tn, ih, par_T]
/-- The parity of bytes. -/
def pars : List UInt8 → Bool
  | [] => false
  | c :: l => par 32 (ext c) ^^ pars l
theorem pars_append (a b : List UInt8) : pars (a ++ b) = (pars a ^^ pars b) := by
  induction a with
  | nil => simp [pars]
  | cons c a ih => rw [List.cons_append, pars, ih, pars, Bool.xor_assoc]
theorem par_fold (l : List UInt8) : ∀ r, par 32 (fold r l) = (par 32 r ^^ pars l) := by
  induction l with
  | nil => intro r; simp [pars, fold]
  | cons c l ih =>
    intro r
    rw [fold_cons, ih, stepB, par_Tn, par_xor, pars, Bool.xor_assoc]
theorem par_sum (l : List UInt8) : par 32 (sum l) = pars l := by
  unfold sum
  rw [par_xor, par_fold]
  cases par 32 ones <;> cases pars l <;> rfl
theorem pars_zeros (n : Nat) : pars (List.replicate n 0) = false := by
  induction n with
  | zero => rfl
  | succ n ih => rw [List.replicate_succ, pars, ih]; decide
theorem ext_xor (a b : UInt8) : ext (a ^^^ b) = ext a ^^^ ext b := by
  unfold ext
  rw [UInt8.toNat_xor, BitVec.ofNat_xor]
theorem par_bit : ∀ i : Fin 8, par 32 (ext (UInt8.ofNat (2 ^ i.val))) = true := by decide
/-- One bit turned turns the parity. -/
theorem pars_turn (l : List UInt8) (j i : Nat) (hj : j < l.length) (hi : i < 8) : pars (l.set j (l[j] ^^^ UInt8.ofNat (2 ^ i))) = !pars l := by
  induction l generalizing j with
  | nil => simp at hj
  | cons c l ih =>
    cases j with
    | zero =>
      simp only [List.set_cons_zero, List.getElem_cons_zero, pars]
      rw [ext_xor, par_xor, par_bit ⟨i, hi⟩]
      cases par 32 (ext c) <;> cases pars l <;> rfl
    | succ j =>
      simp only [List.set_cons_succ, List.getElem_cons_succ, pars]
      rw [ih j (by simpa using hj)]
      cases par 32 (ext c) <;> cases pars l <;> rfl
/-- The check that the bytes tell. -/
def chkAt (b : List UInt8) : Nat := (((at' b 8).toNat * 256 + (at' b 9).toNat) * 256 + (at' b 10).toNat) * 256 + (at' b 11).toNat
theorem chkAt_frm (id : Nat) (data : List UInt8) : chkAt (frm id data) = chk id data := by
  unfold chkAt
  rw [at_frm _ _ 8 (by omega), at_frm _ _ 9 (by omega), at_frm _ _ 10 (by omega), at_frm _ _ 11 (by omega)]
  show ((((be (chk id data) 0).toNat) * 256 + (be (chk id data) 1).toNat) * 256 + (be (chk id data) 2).toNat) * 256 + (be (chk id data) 3).toNat = _
  have hlt : chk id data < 4294967296 := by unfold chk; exact (sum (hd8 id data.length ++ data)).isLt
  have hb : ∀ k, (be (chk id data) k).toNat = chk id data / 2 ^ (8 * (3 - k)) % 256 := fun k => by unfold be; rw [UInt8.toNat_ofNat']
  rw [hb, hb, hb, hb, show (2 : Nat) ^ (8 * (3 - 0)) = 16777216 from rfl, show (2 : Nat) ^ (8 * (3 - 1)) = 65536 from rfl, show (2 : Nat) ^ (8 * (3 - 2)) = 256 from rfl, show (2 : Nat) ^ (8 * (3 - 3)) = 1 from rfl]
  omega
theorem good_par {b : List UInt8} (h : good b) : par 32 (BitVec.ofNat 32 (chkAt b)) = (pars (b.take 8) ^^ pars (b.drop 12)) := by
  obtain ⟨id, data, _, _, rfl, _, _⟩ := good_is h
  rw [chkAt_frm]
  have e1 : (frm id data).take 8 = hd8 id data.length := by rw [frm_eq, List.append_assoc, List.append_assoc]; exact List.take_left' rfl
  have e2 : (frm id data).drop 12 = data ++ List.replicate (84 - data.length) 0 := by rw [frm_eq, List.append_assoc]; exact List.drop_left' rfl
  rw [e1, e2, pars_append, pars_zeros, Bool.xor_false, ← pars_append, ← par_sum]
  unfold chk
  rw [BitVec.ofNat_toNat, BitVec.setWidth_eq]
theorem at_set_ne (b : List UInt8) (j k : Nat) (x : UInt8) (h : j ≠ k) : at' (b.set j x) k = at' b k := by
  unfold at'
  rw [List.getD_eq_getElem?_getD, List.getD_eq_getElem?_getD, List.getElem?_set_ne h]
/-- A chunk with one bit turned is none. -/
theorem bit_bad {b : List UInt8} (h : good b) (j i : Nat) (hj : j < 96) (hi : i < 8) : ¬ good (b.set j ((b[j]'(by rw [h.1]; exact hj)) ^^^ UInt8.ofNat (2 ^ i))) := by
  intro h2
  have hlen := h.1
  have hjb : j < b.length := by omega
  have hp := good_par h
  have hp2 := good_par h2
  have hturn := pars_turn b j i hjb hi
  generalize hx : b[j] ^^^ UInt8.ofNat (2 ^ i) = x at h2 hp2 hturn
  by_cases hc : 8 ≤ j ∧ j < 12
  · -- the check itself: the head and the data are as they were
    have hdec : dec (b.set j x) 4 = dec b 4 := by
      simp only [dec]
      rw [at_set_ne _ _ _ _ (by omega), at_set_ne _ _ _ _ (by omega), at_set_ne _ _ _ _ (by omega), at_set_ne _ _ _ _ (by omega)]
    have hdat : dat (b.set j x) = dat b := by
      unfold dat
      rw [at_set_ne _ _ _ _ (by omega), List.drop_set, if_pos (by omega)]
    have e := h2.2.2
    rw [hdec, hdat, h.2.2] at e
    rw [← e] at hturn
    cases pars b <;> simp at hturn
  · have hchk : chkAt (b.set j x) = chkAt b := by
      unfold chkAt
      rw [at_set_ne _ _ _ _ (by omega), at_set_ne _ _ _ _ (by omega), at_set_ne _ _ _ _ (by omega), at_set_ne _ _ _ _ (by omega)]
    rw [hchk, hp] at hp2
    have split : ∀ l : List UInt8, l.length = 96 → pars l = (pars (l.take 8) ^^ (pars ((l.drop 8).take 4) ^^ pars (l.drop 12))) := fun l hl => by
      have e1 : l = l.take 8 ++ ((l.drop 8).take 4 ++ l.drop 12) := by
        have q1 := List.take_append_drop 8 l
        have q2 := List.take_append_drop 4 (l.drop 8)
        rw [List.drop_drop] at q2
        rw [q2, q1]
      rw [← pars_append, ← pars_append, ← e1]
    have hmid : ((b.set j x).drop 8).take 4 = (b.drop 8).take 4 := by
      apply List.ext_getElem?
      intro k
      rw [List.getElem?_take, List.getElem?_take]
      split
      · rw [List.getElem?_drop, List.getElem?_drop, List.getElem?_set_ne (by omega)]
      · rfl
    rw [split (b.set j x) (by rw [List.length_set]; exact hlen), split b hlen, hmid] at hturn
    revert hp2 hturn
    cases pars (b.take 8) <;> cases pars (b.drop 12) <;> cases pars ((b.set j x).take 8) <;> cases pars ((b.set j x).drop 12) <;> cases pars ((b.drop 8).take 4) <;> simp
/-- Unlike chunks have unlike bytes. -/
theorem frm_inj (i k : Nat) (hi : i < 4294967296) (hk : k < 4294967296) (d e : List UInt8) (hd : d.length ≤ 64) (he : e.length ≤ 64) : frm i d = frm k e ↔ (i = k ∧ d = e) := by
  constructor
  · intro h
    have h1 := congrArg (fun b => dec b 4) h
    have h2 := congrArg dat h
    simp only [dec_frm i hi, dec_frm k hk] at h1
    rw [dat_frm i d hd, dat_frm k e he] at h2
    exact ⟨h1, h2⟩
  · rintro ⟨rfl, rfl⟩; rfl
end Go.Proofs.Ytmilfilmhkpjoaa.FrmW
