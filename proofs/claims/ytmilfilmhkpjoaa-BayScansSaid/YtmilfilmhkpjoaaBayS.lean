/- BayScans: what the disk tells, plain. -/
import Derived.Test.YtmilfilmhkpjoaaBayL3
namespace Go.Proofs.Ytmilfilmhkpjoaa.BayW
open Go Go.RowKit Go.Proofs.Ytmilfilmhkpjoaa Go.Proofs.Ytmilfilmhkpjoaa.Sp Go.Proofs.Ytmilfilmhkpjoaa.Reg Go.Proofs.Ytmilfilmhkpjoaa.SlW Go.Proofs.Ytmilfilmhkpjoaa.Fus Go.Proofs.Ytmilfilmhkpjoaa.Rd Go.Proofs.Ytmilfilmhkpjoaa.DskW Go.Proofs.Ytmilfilmhkpjoaa.FrmW
/-- A disk of eight slots behind so many writes, the i-th of them into the i-th slot. -/
def DN (fs : List (List UInt8)) : Dk := ⟨List.replicate 8 blk0, fs.zipIdx.map fun x => (x.2, x.1), false⟩
theorem dn_pend (fs : List (List UInt8)) (f : List UInt8) : (DN (fs ++ [f])).pend = (DN fs).pend ++ [(fs.length, f)] := by
  unfold DN
  simp [List.zipIdx_append]
theorem dn_write (fs : List (List UInt8)) (f : List UInt8) (hf : f.length = 96) (hn : fs.length < 8) : dWrite none (DN fs) ((fs.length : Nat) : Int) f = (0, none, DN (fs ++ [f])) := by
  unfold dWrite
  rw [if_neg (by rw [hf]; unfold DN; simp; omega), if_neg (by unfold DN; simp), if_neg (by simp [fdead])]
  have h : (DN (fs ++ [f])) = ⟨(DN fs).lasts, (DN fs).pend ++ [(fs.length, f)], false⟩ := by
    rw [← dn_pend]; rfl
  rw [h, Int.toNat_natCast]
  rfl
theorem now_zip (slot : Nat) : ∀ (fs : List (List UInt8)) (n : Nat) (acc : List UInt8), ((fs.zipIdx n).map fun x => (x.2, x.1)).foldl (fun acc x => if x.1 = slot then x.2 else acc) acc = if h : n ≤ slot ∧ slot < n + fs.length then fs[slot - n]'(by omega) else acc
  | [], n, acc => by rw [dif_neg (by simp only [List.length_nil]; omega)]; rfl
  | f :: fs, n, acc => by
    rw [List.zipIdx_cons, List.map_cons, List.foldl_cons, now_zip slot fs (n + 1)]
    by_cases h1 : n = slot
    · subst h1
      rw [dif_neg (by omega), dif_pos (by simp)]
      simp
    · by_cases h2 : n + 1 ≤ slot ∧ slot < n + 1 + fs.length
      · rw [dif_pos h2, dif_pos (by simp; omega)]
        obtain ⟨m, hm⟩ : ∃ m, slot - n = m + 1 := ⟨slot - n - 1, by omega⟩
        have e : slot - (n + 1) = m := by omega
        simp [hm, e]
      · rw [dif_neg h2, dif_neg (by simp; omega), if_neg h1]
theorem dn_read (fs : List (List UInt8)) (k : Nat) (hk : k < 8) (hn : fs.length ≤ 8) : dRead (DN fs) (k : Int) = if h : k < fs.length then fs[k] else blk0 := by
  unfold dRead
  rw [if_pos ⟨by unfold DN; simp; omega, rfl⟩, Int.toNat_natCast]
  unfold nowB DN
  have q := now_zip k fs 0 ((List.replicate 8 blk0).getD k [])
  rw [q]
  by_cases h : k < fs.length
  · rw [dif_pos (by omega), dif_pos h]; rfl
  · rw [dif_neg (by omega), dif_neg h]
    rw [List.getD_eq_getElem?_getD, List.getElem?_replicate, if_pos hk]
    rfl
theorem dn_err (fs : List (List UInt8)) (k : Nat) (hk : k < 8) : dErr (DN fs) (k : Int) = 0 := by unfold dErr DN; rw [if_pos (by simp; omega)]; rfl
theorem lastIdx_zip (slot : Nat) (fs : List (List UInt8)) (hs : slot < fs.length) : ∀ m, slot < m → m ≤ fs.length → lastIdx (DN fs).pend slot m = some slot
  | 0, h, _ => absurd h (Nat.not_lt_zero _)
  | m + 1, h, hm => by
    unfold lastIdx
    have e : ((DN fs).pend.getD m (0, [])).1 = m := by
      unfold DN
      simp [List.getD, show m < fs.length by omega]
    rw [e]
    by_cases h2 : m = slot
    · rw [if_pos h2, h2]
    · rw [if_neg h2]
      exact lastIdx_zip slot fs hs m (by omega) (by omega)
theorem dn_rot (fs : List (List UInt8)) (k : Nat) (hk : k < fs.length) (hn : fs.length ≤ 8) (x : UInt8) : dRot (DN fs) (k : Int) 5 x = (true, DN (fs.set k (fs[k].set 5 (fs[k].getD 5 0 ^^^ x)))) := by
  unfold dRot
  rw [if_pos ⟨by unfold DN; simp; omega, by omega, by omega, rfl⟩, Int.toNat_natCast]
  have e : nowB (DN fs).lasts (DN fs).pend k = fs[k] := by
    have q := dn_read fs k (by omega) hn
    unfold dRead at q
    rw [if_pos ⟨by unfold DN; simp; omega, rfl⟩, Int.toNat_natCast, dif_pos hk] at q
    exact q
  rw [e]
  unfold setNow
  rw [show lastIdx (DN fs).pend k (DN fs).pend.length = some k from lastIdx_zip k fs hk _ (by unfold DN; simpa using hk) (by unfold DN; simp)]
  refine Prod.ext rfl ?_
  show (⟨_, _, _⟩ : Dk) = DN _
  unfold DN
  congr 1
  refine List.ext_getElem (by simp) fun j h1 h2 => ?_
  simp [List.getElem_set]
  split <;> simp_all
/-- What is found ahead of a slot is a beginning of what is found. -/
theorem chs_pre (D : Dk) (k : Nat) : ∀ m, ∃ r, chs D (k + m) = chs D k ++ r
  | 0 => ⟨[], (List.append_nil _).symm⟩
  | m + 1 => by
    obtain ⟨r, hr⟩ := chs_pre D k m
    rcases Classical.em (good (dRead D ((k + m : Nat) : Int))) with h | h
    · exact ⟨r ++ [_], by rw [← Nat.add_assoc, chs_yes h, hr, List.append_assoc]⟩
    · exact ⟨r, by rw [← Nat.add_assoc, chs_no h, hr]⟩
theorem chs_get {D : Dk} {k n : Nat} (hk : k < n) (h : good (dRead D (k : Int))) : (chs D n)[(chs D k).length]? = some (k, dec (dRead D k) 4, (dat (dRead D k)).length) := by
  obtain ⟨r, hr⟩ := chs_pre D (k + 1) (n - (k + 1))
  rw [show k + 1 + (n - (k + 1)) = n by omega, chs_yes h, List.append_assoc] at hr
  rw [hr, List.getElem?_append_right (Nat.le_refl _), Nat.sub_self]
  rfl
theorem chs_end {D : Dk} {n : Nat} : ∀ m, (∀ k, n ≤ k → k < n + m → ¬ good (dRead D (k : Int))) → chs D (n + m) = chs D n
  | 0, _ => rfl
  | m + 1, h => by
    rw [← Nat.add_assoc, chs_no (h (n + m) (by omega) (by omega))]
    exact chs_end m fun k h1 h2 => h k h1 (by omega)
theorem c3_at : ∀ (l : List (Nat × Nat × Nat)) (k : Nat) (x : Nat × Nat × Nat), l[k]? = some x → (l.flatMap c3)[k * 3]? = some (.int .i64 (x.1 : Int)) ∧ (l.flatMap c3)[k * 3 + 1]? = some (.int .i64 (x.2.1 : Int)) ∧ (l.flatMap c3)[k * 3 + 2]? = some (.int .i64 (x.2.2 : Int))
  | [], k, x, h => by simp at h
  | y :: l, 0, x, h => by
    obtain rfl : y = x := by simpa using h
    exact ⟨rfl, rfl, rfl⟩
  | y :: l, k + 1, x, h => by
    have q := c3_at l k x (by simpa using h)
    rw [show (k + 1) * 3 = k * 3 + 1 + 1 + 1 by omega]
    exact q
end Go.Proofs.Ytmilfilmhkpjoaa.BayW
