/- The document's records: KeyOk. No condition. -/
import Derived.Test.YtnfkcmcchkcflaaRcD2
set_option linter.unusedSimpArgs false
set_option linter.unusedVariables false
namespace Go.Proofs.Ytnfkcmcchkcflaa.RcD
open Go Go.RowKit Go.Proofs.Ytnfkcmcchkcflaa Go.Proofs.Ytnfkcmcchkcflaa.Sp Go.Proofs.Ytnfkcmcchkcflaa.Reg Go.Proofs.Ytnfkcmcchkcflaa.RcM Go.Proofs.Ytnfkcmcchkcflaa.SlW Go.Proofs.Ytnfkcmcchkcflaa.RcW Go.Proofs.Ytnfkcmcchkcflaa.Rd
theorem run_strIdx {P : Program} {t : TypeId} (ht : P.underlying t = some .string) (w : World) (bs : List UInt8) (k : IntKind) (n : Nat) (h : n < bs.length) :
    (Instr.index t (str bs) (.int k (n : Int))).run P w = .ok (.int .u8 (bs[n].toNat : Int)) w := by
  have hsz : (⟨bs.toArray⟩ : ByteArray).size = bs.length := by simp [ByteArray.size]
  unfold str
  rw [run_index_string w t _ k _ ht, dif_pos ⟨by omega, by rw [hsz]; omega⟩]
  simp [ByteArray.getElem_eq_getElem_data]
theorem inn_no {n a b : Int} : inn n a b = false ↔ n < a ∨ b < n := by
  rw [Bool.eq_false_iff, ne_eq, inn_iff]
  omega
theorem keyOk_long {k : List UInt8} (h : 16 < k.length) : keyOk k = false := by
  unfold keyOk
  rw [show decide (k.length ≤ 16) = false from decide_eq_false (by omega)]
  simp
set_option maxRecDepth 100000 in
set_option maxHeartbeats 2000000 in
theorem rkeyok_calls (k : List UInt8) (hk : k.length ≤ maxLen) (w : World) : Calls Try.prog 32 #[str k] w (RetA w (.bool (keyOk k))) := by
  have hs1 : (⟨k.toArray⟩ : ByteArray).size = k.length := by simp [ByteArray.size]
  unfold maxLen at hk
  go_enter Try.func32, Try.ntmps32
  go_wp2_with fail
  go_loopw [3] (fun i wr => ∃ n : Nat, n ≤ k.length ∧ n ≤ 20 ∧ i = .int .i64 n ∧ (k.take n).all chOk = true ∧ wr = w) (fun i _ => 20 - (intOf i).toNat)
  case atStart => exact ⟨0, Nat.zero_le _, Nat.zero_le _, rfl, rfl, rfl⟩
  case round =>
    obtain ⟨n, hn, h20, rfl, hall, rfl⟩ := hrel
    by_cases hlt : n < k.length
    · have hltI : (n : Int) < (k.length : Int) := by omega
      by_cases hl2 : n < 20
      · have hl2I : (n : Int) < 20 := by omega
        have hno := fun h => keyOk_no (k := k) hlt h
        have htk : (k.take (n + 1)).all chOk = chOk k[n] := by rw [List.take_succ_eq_append_getElem hlt, List.all_append, hall]; simp
        have hix := run_strIdx (P := Try.prog) Try.underlying9 wr k .i64 n hlt
        unfold str at hix ⊢
        generalize k[n] = c at *
        by_cases g1 : ((c.toNat : Nat) : Int) ≤ 32
        · have Hno := Lib.hid (hno (by unfold chOk; rw [show decide (32 < c.toNat) = false from decide_eq_false (by omega)]; rfl))
          clear hno htk hall
          go_wp2_with fail
          go_ret
          rw [Hno.out]
          exact ⟨rfl, Add.refl _⟩
        · by_cases g2 : (127 : Int) ≤ ((c.toNat : Nat) : Int)
          · have Hno := Lib.hid (hno (by unfold chOk; rw [show decide (c.toNat < 127) = false from decide_eq_false (by omega)]; simp))
            clear hno htk hall
            go_wp2_with fail
            go_ret
            rw [Hno.out]
            exact ⟨rfl, Add.refl _⟩
          · have Htk := Lib.hid (htk.trans (by unfold chOk; rw [decide_eq_true (show 32 < c.toNat by omega), decide_eq_true (show c.toNat < 127 by omega)]))
            clear hno htk hall
            go_wp2_with fail
            go_roundw
            case rel => exact ⟨n + 1, by omega, by omega, by go_num, Htk.out, trivial⟩
            case measure => simp [intOf]; omega
      · have Hk := Lib.hid (keyOk_long (k := k) (by omega))
        have e1 : ¬ (n : Int) < 20 := by omega
        have e2 : (1 : Int) ≤ (k.length : Int) := by omega
        have e3 : ¬ (k.length : Int) ≤ 16 := by omega
        clear hall hlt hn hl2
        go_wp2_with fail
        go_ret
        rw [Hk.out]
        exact ⟨rfl, Add.refl _⟩
    · obtain rfl : n = k.length := by omega
      have hnl : ¬ (k.length : Int) < (k.length : Int) := by omega
      rw [List.take_length] at hall
      by_cases e2 : (1 : Int) ≤ (k.length : Int)
      · by_cases e3 : (k.length : Int) ≤ 16
        · have Hk := Lib.hid (show keyOk k = true by
            simp only [keyOk, hall, decide_eq_true (show 1 ≤ k.length by omega), decide_eq_true (show k.length ≤ 16 by omega)]; rfl)
          clear hall hlt hn
          go_wp2_with fail
          go_ret
          rw [Hk.out]
          exact ⟨rfl, Add.refl _⟩
        · have Hk := Lib.hid (keyOk_long (k := k) (by omega))
          clear hall hlt hn
          go_wp2_with fail
          go_ret
          rw [Hk.out]
          exact ⟨rfl, Add.refl _⟩
      · have Hk := Lib.hid (show keyOk k = false by unfold keyOk; rw [show decide (1 ≤ k.length) = false from decide_eq_false (by omega)]; rfl)
        clear hall hlt hn
        go_wp2_with fail
        go_ret
        rw [Hk.out]
        exact ⟨rfl, Add.refl _⟩
end Go.Proofs.Ytnfkcmcchkcflaa.RcD
