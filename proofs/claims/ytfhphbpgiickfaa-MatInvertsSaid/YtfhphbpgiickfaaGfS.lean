/- The document's Pow and Dot, walked. -/
import Derived.Test.YtfhphbpgiickfaaGfX
namespace Go.Proofs.Ytfhphbpgiickfaa.Gf
open Go Go.RowKit Go.Proofs.Ytfhphbpgiickfaa Go.Proofs.Ytfhphbpgiickfaa.Sp Go.Proofs.Ytfhphbpgiickfaa.Reg Go.Proofs.Ytfhphbpgiickfaa.Rd
set_option maxHeartbeats 2000000 in
theorem rpow_calls (a : UInt8) (n : Int) (w : World) (hn : -9223372036854775808 ≤ n ∧ n ≤ 9223372036854775807) : Calls Try.prog 23 #[bv a, .int .i64 n] w fun e w' => e = .returned (bv (gpow a n)) ∧ w = w' := by
  by_cases h0 : n = 0
  · subst h0
    rw [show gpow a 0 = 1 from if_pos rfl]
    go_enter Try.func23, Try.ntmps23
    go_wp2_with fail
    go_ret
    exact ⟨rfl, rfl⟩
  · have hn0 : (n == 0) = false := by simpa using h0
    by_cases hx : a = 0
    · subst hx
      rw [show gpow 0 n = 0 by unfold gpow; rw [if_neg h0, if_pos rfl]]
      clear h0
      go_enter Try.func23, Try.ntmps23
      go_wp2_with fail
      go_ret
      exact ⟨rfl, rfl⟩
    · have hz := gpow_gp a n h0 hx
      have hx1 : ((a.toNat : Int) == 0) = false := by simpa using u8_pos hx
      have ht := tmod_255 n
      obtain ⟨k, hk⟩ : ∃ k : Nat, (n % 255).toNat = k := ⟨_, rfl⟩
      rw [hk] at hz
      have HZ := Lib.hid hz
      have hkm : k ≤ 254 := by omega
      clear hz hx h0
      by_cases hs : 0 ≤ n.tmod 255
      · have ht2 : n.tmod 255 = (k : Int) := by rw [ht] at hs ⊢; split at hs <;> omega
        clear hs hk ht
        go_enter Try.func23, Try.ntmps23
        go_wp2_with fail
        go_loop [6, 7] (fun p i => ∃ j : Nat, j ≤ k ∧ i = .int .i64 j ∧ p = bv (gp a j)) (fun _ i => k - (intOf i).toNat)
        case atStart => exact ⟨0, Nat.zero_le _, rfl, rfl⟩
        case round =>
          obtain ⟨j, hj, rfl, rfl⟩ := hrel
          by_cases hlt : j < k
          · skip
            go_wp2_with fail
            refine (rmul_calls (gp a j) a _).mono ?_
            rintro e w1 ⟨rfl, rfl⟩
            go_wp2_with fail
            go_round
            case rel => exact ⟨j + 1, by omega, by go_num, rfl⟩
            case measure => simp [intOf]; omega
          · obtain rfl : j = k := by omega
            go_wp2_with fail
            go_ret
            exact ⟨by rw [HZ.out]; rfl, rfl⟩
      · have ht2 : n.tmod 255 = (k : Int) - 255 := by rw [ht] at hs ⊢; split at hs <;> omega
        have hd : decide ((k : Int) - 255 < 0) = true := by simp; omega
        clear hs hk ht
        go_enter Try.func23, Try.ntmps23
        go_wp2_with fail
        go_loop [6, 7] (fun p i => ∃ j : Nat, j ≤ k ∧ i = .int .i64 j ∧ p = bv (gp a j)) (fun _ i => k - (intOf i).toNat)
        case atStart => exact ⟨0, Nat.zero_le _, rfl, rfl⟩
        case round =>
          obtain ⟨j, hj, rfl, rfl⟩ := hrel
          by_cases hlt : j < k
          · skip
            go_wp2_with fail
            refine (rmul_calls (gp a j) a _).mono ?_
            rintro e w1 ⟨rfl, rfl⟩
            go_wp2_with fail
            go_round
            case rel => exact ⟨j + 1, by omega, by go_num, rfl⟩
            case measure => simp [intOf]; omega
          · obtain rfl : j = k := by omega
            go_wp2_with fail
            go_ret
            exact ⟨by rw [HZ.out]; rfl, rfl⟩
theorem run_strIdx {P : Program} {t : TypeId} (ht : P.underlying t = some .string) (w : World) (bs : List UInt8) (k : IntKind) (n : Nat) (h : n < bs.length) :
    (Instr.index t (str bs) (.int k (n : Int))).run P w = .ok (bv bs[n]) w := by
  have hsz : (⟨bs.toArray⟩ : ByteArray).size = bs.length := by simp [ByteArray.size]
  unfold str
  rw [run_index_string w t _ k _ ht, dif_pos ⟨by omega, by rw [hsz]; omega⟩]
  simp [ByteArray.getElem_eq_getElem_data]
set_option maxRecDepth 100000 in
set_option maxHeartbeats 4000000 in
theorem rdotx {B : Nat} {w0 : World} {R : HP} (la lb : List UInt8) (w : World) (hl1 : la.length ≤ 9223372036854775807) (_hl2 : lb.length ≤ 9223372036854775807) (s : St B w0 w R) :
    Calls Try.prog 25 #[str la, str lb] w (RetG B w0 R (bv (gdot la lb))) := by
  have z1 : (⟨la.toArray⟩ : ByteArray).size = la.length := by simp [ByteArray.size]
  have z2 : (⟨lb.toArray⟩ : ByteArray).size = lb.length := by simp [ByteArray.size]
  have HT := Lib.hid (gdot_take la lb (min la.length lb.length) (Nat.le_refl _))
  have S := Lib.hid s
  clear s
  go_enter Try.func25, Try.ntmps25
  go_wp2_with fail
  go_loopw [5, 6] (fun p i wr => ∃ k : Nat, k ≤ la.length ∧ k ≤ lb.length ∧ i = .int .i64 k ∧ p = bv (gdot (la.take k) (lb.take k)) ∧ St B w0 wr R) (fun _ i _ => la.length - (intOf i).toNat)
  case atStart => exact ⟨0, Nat.zero_le _, Nat.zero_le _, rfl, rfl, S.out⟩
  case round =>
    obtain ⟨k, hk1, hk2, rfl, rfl, s⟩ := hrel
    clear S
    have S := Lib.hid s
    clear s
    have go : ∀ (_ : ¬ (k < la.length ∧ k < lb.length)), gdot (la.take k) (lb.take k) = gdot la lb := fun h => by
      have := HT.out
      rw [show min la.length lb.length = k by omega] at this
      exact this
    have GO := Lib.hid go
    clear go
    by_cases k1 : k < la.length
    · by_cases k2 : k < lb.length
      · have hi1 := fun w : World => run_strIdx (P := Try.prog) Try.underlying9 w la .i64 k k1
        have hi2 := fun w : World => run_strIdx (P := Try.prog) Try.underlying9 w lb .i64 k k2
        have HS := Lib.hid (gdot_step la lb k k1 k2)
        have HX := Lib.hid (bits_xor_u8' (gdot (la.take k) (lb.take k)) (gmul la[k] lb[k]))
        generalize la[k] = x at hi1 HS HX
        generalize lb[k] = y at hi2 HS HX
        go_wp2_with fail
        refine wp_region_rx (fun _ w' => St B w0 w' R) [] mixed (by kernel_rfl) (by kernel_rfl) S.out.drew ?_
        refine RXl.exact (bv (gdot (la.take k) (lb.take k))) rfl rfl rfl rfl rfl (fun _ _ _ _ _ => rfl) ?_
        refine RXl.exact (str la) rfl rfl rfl rfl rfl (fun _ _ _ _ _ => rfl) ?_
        refine RXl.exact (.int .i64 (k : Int)) rfl rfl rfl rfl rfl (fun _ _ _ _ _ => rfl) ?_
        refine RXl.exact (bv x) rfl rfl rfl rfl rfl (fun j τ w' hj hJ => by simp [rho, upd, Spec.val, execOp, go_sem, hi1]) ?_
        refine RXl.exact (str lb) rfl rfl rfl rfl rfl (fun _ _ _ _ _ => rfl) ?_
        refine RXl.exact (.int .i64 (k : Int)) rfl rfl rfl rfl rfl (fun _ _ _ _ _ => rfl) ?_
        refine RXl.exact (bv y) rfl rfl rfl rfl rfl (fun j τ w' hj hJ => by simp [rho, upd, Spec.val, execOp, go_sem, hi2]) ?_
        refine RXl.callr (bv (gmul x y)) _ [bv x, bv y] [.tmp 22, .tmp 25] _ rfl rfl rfl rfl rfl rfl (fun _ => rfl) (fun j τ w' hj hJ => (rmul_calls x y w').mono fun _ _ ⟨h1, h2⟩ => ⟨h1, h2 ▸ hJ⟩) ?_
        refine RXl.exact (bv (gdot (la.take (k + 1)) (lb.take (k + 1)))) rfl rfl rfl rfl rfl (fun j τ w' hj hJ => by have c := HX.out; rw [HS.out]; simp [rho, upd, Spec.val, execOp, go_sem, c]) ?_
        refine RXl.exact (bv (gdot (la.take (k + 1)) (lb.take (k + 1)))) rfl rfl rfl rfl rfl (fun _ _ _ _ _ => rfl) ?_
        refine RXl.nilx _ (Agr.upd _ _ (Agr.upd _ _ (Agr.upd _ _ (Agr.upd _ _ (Agr.upd _ _ (Agr.upd _ _ (Agr.upd _ _ (Agr.upd _ _ (Agr.upd _ _ (Agr.upd _ _ (Agr.base _))))))))))) fun w8 hJ => ?_
        obtain ⟨_, hJ⟩ := hJ
        simp only [Act.put, List.setIfInBounds_toArray, List.set_cons_succ, List.set_cons_zero]
        have S8 := Lib.hid (show St B w0 w8 R from hJ)
        clear hJ S hi1 hi2
        go_wp2_with fail
        go_roundw
        case rel => exact ⟨k + 1, by omega, by omega, by go_num, rfl, S8.out⟩
        case measure => simp [intOf]; omega
      · obtain rfl : k = lb.length := by omega
        go_wp2_with fail
        go_ret
        exact ⟨by rw [GO.out (by omega)]; rfl, S.out⟩
    · obtain rfl : k = la.length := by omega
      go_wp2_with fail
      go_ret
      exact ⟨by rw [GO.out (by omega)]; rfl, S.out⟩
end Go.Proofs.Ytfhphbpgiickfaa.Gf
