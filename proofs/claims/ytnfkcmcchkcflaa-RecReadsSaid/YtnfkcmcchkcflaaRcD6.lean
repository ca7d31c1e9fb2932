/- The document's records: how bytes are read from the front. No condition. -/
import Derived.Test.YtnfkcmcchkcflaaRcD5
import Derived.Test.YtnfkcmcchkcflaaRcD3
import Derived.Test.YtnfkcmcchkcflaaRcW5
set_option linter.unusedSimpArgs false
set_option linter.unusedVariables false
namespace Go.Proofs.Ytnfkcmcchkcflaa.RcD
open Go Go.RowKit Go.Proofs.Ytnfkcmcchkcflaa Go.Proofs.Ytnfkcmcchkcflaa.Sp Go.Proofs.Ytnfkcmcchkcflaa.Reg Go.Proofs.Ytnfkcmcchkcflaa.RcM Go.Proofs.Ytnfkcmcchkcflaa.SlW Go.Proofs.Ytnfkcmcchkcflaa.RcW Go.Proofs.Ytnfkcmcchkcflaa.Rd
theorem run_strTo {P : Program} {t : TypeId} (ht : P.underlying t = some .string) (w : World) (bs : List UInt8) (k' : IntKind) (n : Nat) (h : n ≤ bs.length) :
    (Instr.sliceAt t (str bs) none (some (.int k' (n : Int))) none).run P w = .ok (str (bs.take n)) w := by
  have hsz : (⟨bs.toArray⟩ : ByteArray).size = bs.length := by simp [ByteArray.size]
  have he : (⟨bs.toArray⟩ : ByteArray).extract 0 n = ⟨(bs.take n).toArray⟩ := by
    apply ByteArray.ext
    simp [ByteArray.data_extract]
  rw [run_sliceAt_string w t _ _ _ _ ht]
  unfold str
  simp [Instr.slice, run_underlying ht, Instr.sliceBounds, run_sliceBound, hsz, h, he]
theorem run_strFrom {P : Program} {t : TypeId} (ht : P.underlying t = some .string) (w : World) (bs : List UInt8) (k : IntKind) (l : Nat) (h : l ≤ bs.length) :
    (Instr.sliceAt t (str bs) (some (.int k (l : Int))) none none).run P w = .ok (str (bs.drop l)) w := by
  have hsz : (⟨bs.toArray⟩ : ByteArray).size = bs.length := by simp [ByteArray.size]
  have he : (⟨bs.toArray⟩ : ByteArray).extract l bs.length = ⟨(bs.drop l).toArray⟩ := by
    apply ByteArray.ext
    simp [ByteArray.data_extract]
    exact List.take_of_length_le (by simp)
  rw [run_sliceAt_string w t _ _ _ _ ht]
  unfold str
  simp [Instr.slice, run_underlying ht, Instr.sliceBounds, run_sliceBound, hsz, h, he]
/-- The document's reader. -/
def rr (p : Nat) (s : List UInt8 × Bool) : HP := pts p (.cells #[str s.1, .bool s.2] 79 (0, 0))
section
variable {B : Nat} {w0 : World}
set_option maxRecDepth 100000 in
set_option maxHeartbeats 4000000 in
theorem rtake_calls (p n : Nat) (hn : n ≤ 1000000) (s : List UInt8 × Bool) (H : HP) (w : World) (h : St B w0 w (rr p s * H)) :
    Calls Try.prog 43 #[.pointer (some ⟨p, 0, none⟩), .int .i64 n] w fun e w' => e = .returned (str (dtk n s).1) ∧ St B w0 w' (rr p (dtk n s).2 * H) := by
  obtain ⟨b, bad⟩ := s
  have hsz : (⟨b.toArray⟩ : ByteArray).size = b.length := by simp [ByteArray.size]
  have c0 := h.cell 0
  have c1 := h.cell 1
  have g0 := h.free 0
  have g1 := h.free 1
  simp at c0 c1
  have S := Lib.hid h
  clear h
  by_cases hl : n ≤ b.length
  · have e : dtk n (b, bad) = (b.take n, b.drop n, bad) := by unfold dtk; rw [if_pos hl]
    rw [e]
    clear e
    have hlI : ¬ (b.length : Int) < (n : Int) := by omega
    have h1 := fun w => run_strTo (P := Try.prog) Try.underlying9 w b .i64 n hl
    have h2 := fun w => run_strFrom (P := Try.prog) Try.underlying9 w b .i64 n hl
    unfold str at h1 h2 c0 ⊢
    go_enter Try.func43, Try.ntmps43
    go_wp2_with fail
    go_ret
    exact ⟨rfl, S.out.set 0 _⟩
  · have e : dtk n (b, bad) = (List.replicate n 0, [], true) := by unfold dtk; rw [if_neg hl]
    rw [e]
    clear e
    have hlI : (b.length : Int) < (n : Int) := by omega
    have S2 := Lib.hid (show St B w0 _ (rr p ([], true) * H) from (S.out.set 1 (.bool true)).set 0 (str []))
    unfold str at c0
    go_enter Try.func43, Try.ntmps43
    go_wp2_with (at_make; go_must (refine wpl_make1 rfl _ _ rfl tB rfl S2.out .i64 .i64 n n rfl rfl (Nat.le_refl _) (by unfold maxLen; omega) (by omega) ?_); intro g w2 s2; rw [bvs_zeros] at s2; have hcv := run_str (P := Try.prog) Try.underlying32 Try.underlying5 Try.underlying9 s2.bs; have S3 := Lib.hid s2; clear s2)
    go_ret
    exact ⟨rfl, S3.out.right⟩
theorem dtk_len (n : Nat) (s : List UInt8 × Bool) : (dtk n s).1.length = n := by
  unfold dtk
  split
  · simp; omega
  · simp
set_option maxRecDepth 100000 in
set_option maxHeartbeats 4000000 in
theorem rnum_calls (p n : Nat) (hn : n ≤ 4) (s : List UInt8 × Bool) (H : HP) (w : World) (h : St B w0 w (rr p s * H)) :
    Calls Try.prog 42 #[.pointer (some ⟨p, 0, none⟩), .int .i64 n] w fun e w' => e = .returned (.int .i64 (gNum dtk n s).1) ∧ St B w0 w' (rr p (gNum dtk n s).2 * H) := by
  have Q := Lib.hid (rtake_calls p n (by omega) s H w h)
  have hl := dtk_len n s
  have hv : (gNum dtk n s).1 = (pN (dtk n s).1 n : Int) := by
    show pNum (dtk n s).1 = _
    unfold pN
    rw [List.take_of_length_le (by omega)]
    have := pNum_lo (dtk n s).1
    omega
  have hs2 : (gNum dtk n s).2 = (dtk n s).2 := rfl
  rw [hv, hs2]
  generalize (dtk n s).1 = q at *
  generalize (dtk n s).2 = s2 at *
  have hsz : (⟨q.toArray⟩ : ByteArray).size = q.length := by simp [ByteArray.size]
  rw [hl] at hsz
  have HL := Lib.hid hl
  clear hl h hv hs2
  go_enter Try.func42, Try.ntmps42
  go_wp2_with fail
  refine Q.out.mono ?_
  rintro e w1 ⟨rfl, s1⟩
  have S1 := Lib.hid s1
  clear s1 Q
  go_wp2_with fail
  go_loopw [6, 7] (fun v i wr => ∃ k : Nat, k ≤ n ∧ i = .int .i64 k ∧ v = .int .i64 (pN q k : Nat) ∧ wr = w1) (fun _ i => fun _ => n - (intOf i).toNat)
  case atStart => exact ⟨0, Nat.zero_le _, rfl, rfl, rfl⟩
  case round =>
    obtain ⟨k, hk, rfl, rfl, rfl⟩ := hrel
    by_cases hlt : k < n
    · have hql : k < q.length := by rw [HL.out]; exact hlt
      have hix := run_strIdx (P := Try.prog) Try.underlying9 wr q .i64 k hql
      have hs := pN_succ hql
      have hm := pN_lt (l := q) k (by omega) (by omega)
      have hx := q[k].toNat_lt
      have ho := or_byte (pN q k) q[k].toNat hm (by omega)
      generalize q[k] = x at *
      rw [← hs] at ho
      have Hs := Lib.hid hs
      generalize pN q k = m at *
      have hltI : (k : Int) < (n : Int) := by omega
      clear hql hs
      unfold str at hix ⊢
      go_wp2_with fail
      exact ⟨⟨k + 1, by omega, by go_num, rfl, trivial⟩, by simp [intOf]; omega⟩
    · obtain rfl : k = n := by omega
      have hnl : ¬ (k : Int) < (k : Int) := by omega
      clear hlt hk
      go_wp2_with fail
      go_ret
      exact ⟨rfl, S1.out⟩
end
end Go.Proofs.Ytnfkcmcchkcflaa.RcD
