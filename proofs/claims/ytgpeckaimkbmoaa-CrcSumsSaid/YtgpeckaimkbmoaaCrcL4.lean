/- The law CrcSums, walked. -/
import Derived.Test.YtgpeckaimkbmoaaCrcW
namespace Go.Proofs.Ytgpeckaimkbmoaa.CrcL4
open Go Go.RowKit Go.Proofs.Ytgpeckaimkbmoaa Go.Proofs.Ytgpeckaimkbmoaa.Sp Go.Proofs.Ytgpeckaimkbmoaa.CrcM Go.Proofs.Ytgpeckaimkbmoaa.Reg Go.Proofs.Ytgpeckaimkbmoaa.CrcW

set_option maxHeartbeats 800000 in
set_option maxRecDepth 100000 in
theorem walkRow (a : Option Addr) (c : Nat) (xs : List UInt8) (b : Option Addr) (d : Nat) (bs : List UInt8) (w : World) (ha : BS w (.slice a xs.length c) xs) (_y : xs.length * 1 ≤ 140737488351232)
    (hb : BS w (.slice b bs.length d) bs) (_z : bs.length * 1 ≤ 140737488351232) :
    Calls Try.prog 6 #[.slice a xs.length c, .slice b bs.length d] w fun e w' => e = .returned (.bool true) ∧ Below w.heap.size w w' := by
  have HA := Lib.hid ha
  have HB := Lib.hid hb
  clear ha hb
  obtain ⟨n, hn, hna, hnb⟩ : ∃ n : Nat, min (xs.length : Int) (bs.length : Int) = (n : Int) ∧ n ≤ xs.length ∧ n ≤ bs.length := ⟨min xs.length bs.length, by omega, by omega, by omega⟩
  have hmin := fun (w : World) (ats : Array TypeId) (ty : TypeId) => run_min2 (P := Try.prog) w .i64 ats ty xs.length bs.length
  by_cases hlen : 500 < n
  · go_enter Try.func6, Try.ntmps6
    go_wp2_with fail
    refine (awake_calls _).mono ?_
    rintro e w1 ⟨rfl, h1⟩
    go_wp2_with fail
    go_ret
    exact ⟨rfl, h1⟩
  · go_enter Try.func6, Try.ntmps6
    go_wp2_with (at_make; go_must (refine wpl_make1 rfl _ _ rfl tB rfl (St.init w) .i64 .i64 n n rfl rfl (Nat.le_refl _) (by unfold maxLen; omega) (by omega) ?_); intro g w1 s1; have S1 := Lib.hid s1; clear s1)
    clear hmin hn
    have hxl : ∀ k, k ≤ n → (xorL (xs.take k) (bs.take k) ++ List.replicate (n - k) 0).length = n := fun k hk => by simp [xorL]; omega
    go_loopw [7] (fun i wr => ∃ k : Nat, k ≤ n ∧ i = .int .i64 k ∧ St w.heap.size w wr (row 5 1 (.slice (some ⟨g, 0, none⟩) n n) n (bvs (xorL (xs.take k) (bs.take k) ++ List.replicate (n - k) 0)) * emp)) (fun i _ => n - (intOf i).toNat)
    case atStart => exact ⟨0, by omega, rfl, by have := S1.out; rw [bvs_zeros] at this; simpa [xorL] using this⟩
    case round =>
      obtain ⟨k, hk, rfl, hs⟩ := hrel
      have HS := Lib.hid hs
      clear hs
      by_cases hlt : k < n
      · have hA := (HA.out.st rfl HS.out).rd
        have hB := (HB.out.st rfl HS.out).rd
        obtain ⟨b1, o1, rfl, hc1⟩ := hA.2.2.2.2.at (by intro h; simp at h; simp [h] at hna; omega)
        obtain ⟨b2, o2, rfl, hc2⟩ := hB.2.2.2.2.at (by intro h; simp at h; simp [h] at hnb; omega)
        have c1 := hc1 k _ (bvs_get (show k < xs.length by omega))
        have c2 := hc2 k _ (bvs_get (show k < bs.length by omega))
        clear hc1 hc2 hA hB
        obtain ⟨-, -, -, -, hg, hcell, hfree, -, hset⟩ := HS.out.rowB'
        have hkn : k < (xorL (xs.take k) (bs.take k) ++ List.replicate (n - k) (0 : UInt8)).length := by rw [hxl k hk]; exact hlt
        have c3 := hcell k hkn
        have f3 := hfree k
        have HSET := Lib.hid (hset k (xs[k]'(by omega) ^^^ bs[k]'(by omega)) hkn)
        generalize (xorL (xs.take k) (bs.take k) ++ List.replicate (n - k) (0 : UInt8))[k] = z at c3
        have hx := Lib.hid (u8_xor_nat (xs[k]'(by omega)).toNat (bs[k]'(by omega)).toNat (UInt8.toNat_lt _) (UInt8.toNat_lt _))
        clear hcell hfree hset hkn
        have HXL := Lib.hid hxl
        clear hxl
        go_wp2_with fail
        go_region
        have hx2 : (Value.int .u8 (bits .xor .u8 ((xs[k]'(by omega)).toNat : Int) ((bs[k]'(by omega)).toNat : Int))) = bv (xs[k]'(by omega) ^^^ bs[k]'(by omega)) := congrArg (Value.int .u8) (by rw [hx.out, UInt8.toNat_xor])
        rw [hx2]
        have s2 := HSET.out.drew
        rw [xorL_step xs bs n k hlt hna hnb] at s2
        clear hx2 HSET HS hx c3 c1 c2 f3
        generalize (wr.setCell ⟨g, k, none⟩ (bv (xs[k]'(by omega) ^^^ bs[k]'(by omega)))).drew = w2 at s2 ⊢
        have S2 := Lib.hid s2
        clear s2
        go_wp2_with fail
        go_roundw
        case rel => exact ⟨k + 1, by omega, by go_num, S2.out⟩
        case measure => simp [intOf]; omega
      · obtain rfl : k = n := by omega
        have hfin : xorL (xs.take k) (bs.take k) ++ List.replicate (k - k) 0 = xorL (xs.take k) (bs.take k) := by simp
        have hs2 := HS.out
        rw [hfin] at hs2
        have HS2 := Lib.hid hs2
        have hsum := sum_xor (xs.take k) (bs.take k) (by simp; omega)
        have hlk : (xs.take k).length = k := by simp; omega
        rw [hlk] at hsum
        have HSUM := Lib.hid hsum
        clear hs2 hfin HS S1 hxl hlk hsum
        go_wp2_with fail
        have hA : ∀ w', Add wr w' → BS w' (.slice a xs.length c) xs := fun w' h => (HA.out.st rfl HS2.out).below h
        have hB : ∀ w', Add wr w' → BS w' (.slice b bs.length d) bs := fun w' h => (HB.out.st rfl HS2.out).below h
        have hC : ∀ w', Add wr w' → BS w' (.slice (some ⟨g, 0, none⟩) k k) (xorL (xs.take k) (bs.take k)) := fun w' h => HS2.out.bs.below h
        have hadd : Add w wr := HS2.out.below
        refine wp_region_rs mixed (by kernel_rfl) ?_
        refine RSl.exact (.slice a xs.length c) rfl rfl rfl rfl (fun _ _ => rfl) ?_
        refine RSl.exact (.int .i64 ↑k) rfl rfl rfl rfl (fun _ _ => rfl) ?_
        refine RSl.value (.so (fun v w => BS w v (xs.take k))) (Stab.bs _) rfl rfl rfl (fun ρ w' ha hag => slice_bs (ρ := ρ) (x := .tmp 35) (lo := none) (hi := some (.tmp 36)) tB rfl (by rw [hag.ex 35 (.slice a xs.length c) rfl rfl rfl]; exact hA w' ha) 0 k (.inl ⟨rfl, rfl⟩) (.inr ⟨_, congrArg some (hag.ex 36 (.int .i64 ↑k) rfl rfl rfl)⟩) (Nat.zero_le _) hna _ (by simp)) ?_
        refine RSl.callS (.ex (rv (sum (xs.take k)))) (Stab.ex _) _ rfl rfl rfl (fun ρ w' ha hag => ⟨_, exec_go hag.2.2.2 _ [.tmp 37] _ rfl _ rfl rfl, exOf (sum_callsB (hag.so 37 _ rfl rfl rfl))⟩) ?_
        refine RSl.exact (.slice b bs.length d) rfl rfl rfl rfl (fun _ _ => rfl) ?_
        refine RSl.exact (.int .i64 ↑k) rfl rfl rfl rfl (fun _ _ => rfl) ?_
        refine RSl.value (.so (fun v w => BS w v (bs.take k))) (Stab.bs _) rfl rfl rfl (fun ρ w' ha hag => slice_bs (ρ := ρ) (x := .tmp 39) (lo := none) (hi := some (.tmp 40)) tB rfl (by rw [hag.ex 39 (.slice b bs.length d) rfl rfl rfl]; exact hB w' ha) 0 k (.inl ⟨rfl, rfl⟩) (.inr ⟨_, congrArg some (hag.ex 40 (.int .i64 ↑k) rfl rfl rfl)⟩) (Nat.zero_le _) hnb _ (by simp)) ?_
        refine RSl.callS (.ex (rv (sum (bs.take k)))) (Stab.ex _) _ rfl rfl rfl (fun ρ w' ha hag => ⟨_, exec_go hag.2.2.2 _ [.tmp 41] _ rfl _ rfl rfl, exOf (sum_callsB (hag.so 41 _ rfl rfl rfl))⟩) ?_
        refine RSl.exact (rv (sum (xs.take k) ^^^ sum (bs.take k))) rfl rfl rfl rfl (fun w' ha => by simp [rho, upd, Spec.val, execOp, go_sem, -BitVec.toNat_xor]; exact xor_int (sum (xs.take k)) (sum (bs.take k))) ?_
        refine RSl.exact (.int .i64 ↑k) rfl rfl rfl rfl (fun _ _ => rfl) ?_
        refine RSl.value (.so (fun v w => BS w v (List.replicate k 0))) (Stab.bs _) rfl rfl rfl (fun ρ w' _ hag => make_bs tB rfl .i64 .i64 k (hag.ex 44 (.int .i64 ↑k) rfl rfl rfl) (hag.ex 44 (.int .i64 ↑k) rfl rfl rfl) (by omega)) ?_
        refine RSl.callS (.ex (rv (sum (List.replicate k 0)))) (Stab.ex _) _ rfl rfl rfl (fun ρ w' ha hag => ⟨_, exec_go hag.2.2.2 _ [.tmp 45] _ rfl _ rfl rfl, exOf (sum_callsB (hag.so 45 _ rfl rfl rfl))⟩) ?_
        refine RSl.exact (rv (sum (xs.take k) ^^^ sum (bs.take k) ^^^ sum (List.replicate k 0))) rfl rfl rfl rfl (fun w' ha => by simp [rho, upd, Spec.val, execOp, go_sem, -BitVec.toNat_xor]; exact xor_int (sum (xs.take k) ^^^ sum (bs.take k)) (sum (List.replicate k 0))) ?_
        refine RSl.exact (.slice (some ⟨g, 0, none⟩) k k) rfl rfl rfl rfl (fun _ _ => rfl) ?_
        refine RSl.callx (rv (sum (xorL (xs.take k) (bs.take k)))) _ [.slice (some ⟨g, 0, none⟩) k k] [.tmp 48] _ rfl rfl rfl rfl rfl (fun _ => rfl) (fun w' ha => sum_callsB (hC w' ha)) ?_
        refine RSl.exact (.bool true) rfl rfl rfl rfl (fun w' ha => by rw [HSUM.out]; simp [rho, upd, Spec.val, execOp, go_sem]) ?_
        refine RSl.exact (.bool true) rfl rfl rfl rfl (fun _ _ => rfl) ?_
        refine RSl.callx (.bool true) _ [] [] _ rfl rfl rfl rfl rfl (fun _ => rfl) (fun w' ha => awake_calls w') ?_
        refine RSl.exact (.bool true) rfl rfl rfl rfl (fun _ _ => rfl) ?_
        refine RSl.exact (.bool true) rfl rfl rfl rfl (fun _ _ => rfl) ?_
        refine RSl.nil fun a' w' ha hd hs hh => ?_
        obtain ⟨tm, df⟩ := a'
        have hd : df = [] := hd
        subst hd
        have h4 : tm.getD 4 undef = .bool true := hh 4 (by simp)
        clear hh
        go_wp2_with fail
        refine bodyPost_ret (results_tmp rfl _ _ _) rfl ?_
        rw [h4]
        exact ⟨rfl, hadd.trans ha⟩
end Go.Proofs.Ytgpeckaimkbmoaa.CrcL4
