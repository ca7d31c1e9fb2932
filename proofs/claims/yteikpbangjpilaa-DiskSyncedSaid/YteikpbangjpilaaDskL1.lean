/- DiskTears, walked. -/
import Derived.Test.YteikpbangjpilaaDskA
import Derived.Test.YteikpbangjpilaaSlo
namespace Go.Proofs.Yteikpbangjpilaa.DskL
open Go Go.RowKit Go.Proofs.Yteikpbangjpilaa Go.Proofs.Yteikpbangjpilaa.Sp Go.Proofs.Yteikpbangjpilaa.Reg Go.Proofs.Yteikpbangjpilaa.SlW Go.Proofs.Yteikpbangjpilaa.Fus Go.Proofs.Yteikpbangjpilaa.DskN Go.Proofs.Yteikpbangjpilaa.Rd Go.Proofs.Yteikpbangjpilaa.DskW
theorem dWrite_ok {D : Dk} {i : Nat} {bs : List UInt8} (hi : i < D.lasts.length) (hb : bs.length = 96) (hg : D.gone = false) : dWrite none D i bs = (0, none, ⟨D.lasts, D.pend ++ [(i, bs)], D.gone⟩) := by
  unfold dWrite
  rw [if_neg (by simp only [Classical.not_not]; exact ⟨⟨by omega, by omega⟩, hb⟩), if_neg (by simp [hg]), if_neg (by simp [fdead])]
  rfl
theorem full_add (c : UInt8) (w : World) : Calls Try.prog 35 #[bv c] w fun e w' => ∃ v', e = .returned v' ∧ Add w w' ∧ (Spec.so fun v w => BS w v (full c)).holds v' w' := by
  refine (full_calls c w (St.init w)).mono ?_
  rintro e w' ⟨g, rfl, s⟩
  exact ⟨_, rfl, s.below, s.bs⟩

set_option maxRecDepth 100000 in
set_option maxHeartbeats 4000000 in
theorem tears_walk (a b : UInt8) (torn : Int) (w : World) (_wt : (Lit.int .i64 torn).wf = true) :
    Calls Try.prog 7 #[bv a, bv b, .int .i64 torn] w fun e w' => e = .returned (.bool true) ∧ Below w.heap.size w w' := by
  have k1 := and_m8 torn
  obtain ⟨x, hx, hx2⟩ : ∃ x : Nat, torn % 256 = (x : Int) ∧ x < 256 := ⟨(torn % 256).toNat, by omega, by omega⟩
  rw [hx] at k1
  obtain ⟨m, hm, hm2⟩ : ∃ m : Nat, (x : Int) % 97 = (m : Int) ∧ m ≤ 96 := ⟨x % 97, by omega, by omega⟩
  have t1 : dWrite none (Dk.new 1) ((0 : Nat) : Int) (full a) = (0, none, ⟨[blk0], [(0, full a)], false⟩) := dWrite_ok (by decide) (full_len a) rfl
  have t2 : dSync none ⟨[blk0], [(0, full a)], false⟩ = (0, ⟨[full a], [], false⟩) := rfl
  have t3 : dWrite none ⟨[full a], [], false⟩ ((0 : Nat) : Int) (full b) = (0, none, ⟨[full a], [(0, full b)], false⟩) := dWrite_ok (by simp) (full_len b) rfl
  have t4 : dCrash ⟨[full a], [(0, full b)], false⟩ 0 m = ⟨[(full b).take m ++ (full a).drop m], [], false⟩ := by
    unfold dCrash
    rw [show min ((m : Int).toNat) 96 = m by omega]
    rfl
  have hlen : ((full b).take m ++ (full a).drop m).length = 96 := by rw [List.length_append, List.length_take, List.length_drop, full_len, full_len]; omega
  have t5 : dRead ⟨[(full b).take m ++ (full a).drop m], [], false⟩ 0 = (full b).take m ++ (full a).drop m := rfl
  have Hx := Lib.hid hx
  have T1 := Lib.hid t1
  have T2 := Lib.hid t2
  have T3 := Lib.hid t3
  have T4 := Lib.hid t4
  have T5 := Lib.hid t5
  have Hlen := Lib.hid hlen
  clear hx t1 t2 t3 t4 t5 hlen
  go_enter Try.func7, Try.ntmps7
  go_wp2_with fail
  refine (new_calls 1 none _ (St.init w)).mono ?_
  rintro e w1 ⟨p, rfl, s1⟩
  obtain ⟨db, _, _, _, _, rfl, -⟩ := dk_open s1
  have S1 := Lib.hid s1
  clear s1
  go_wp2_with fail
  refine (full_calls a _ S1.out).mono ?_
  rintro e w2 ⟨g, rfl, s2⟩
  have S2 := Lib.hid (s2.eq (sep_left_comm _ _ _))
  clear s2 S1
  go_wp2_with fail
  refine (write0 (Dk.new 1) 0 (full a) _ _ 96 96 w2 (by simp [Dk.new]) (reads_right _ reads_row) (by omega) S2.out).mono ?_
  rw [show dWrite none (Dk.new 1) 0 (full a) = (0, none, ⟨[blk0], [(0, full a)], false⟩) from T1.out]
  rintro e w3 ⟨rfl, s3⟩
  have S3 := Lib.hid s3
  clear s3
  clear S2
  go_wp2_with fail
  refine (sync0 ⟨[blk0], [(0, full a)], false⟩ _ w3 S3.out).mono ?_
  rw [T2.out]
  rintro e w4 ⟨rfl, s4⟩
  have S4 := Lib.hid s4
  clear s4
  clear S3
  go_wp2_with fail
  refine (full_calls b _ S4.out).mono ?_
  rintro e w5 ⟨g2, rfl, s5⟩
  have S5 := Lib.hid (s5.eq (sep_left_comm _ _ _))
  clear s5 S4
  go_wp2_with fail
  refine (write0 ⟨[full a], [], false⟩ 0 (full b) _ _ 96 96 w5 (by simp) (reads_right _ reads_row) (by omega) S5.out).mono ?_
  rw [show dWrite none ⟨[full a], [], false⟩ 0 (full b) = (0, none, ⟨[full a], [(0, full b)], false⟩) from T3.out]
  rintro e w6 ⟨rfl, s6⟩
  have S6 := Lib.hid s6
  clear s6
  clear S5
  go_wp2_with fail
  refine (crash_calls ⟨[full a], [(0, full b)], false⟩ _ _ 0 m (by omega) (by omega) w6 S6.out).mono ?_
  rw [T4.out]
  rintro e w7 ⟨rfl, s7⟩
  have S7 := Lib.hid s7
  clear s7
  clear S6
  go_wp2_with fail
  refine (read_calls ⟨[(full b).take m ++ (full a).drop m], [], false⟩ _ _ 0 w7 S7.out).mono ?_
  rintro e w8 ⟨a8, c8, he, s8⟩
  rw [T5.out] at he s8
  rw [Hlen.out] at he s8
  obtain rfl : e = .returned (.tuple #[.slice a8 96 c8, .int .i64 0]) := he
  have g8 : ∀ w', Add w8 w' → BS w' (.slice a8 96 c8) ((full b).take m ++ (full a).drop m) := fun w' h => s8.bs.below h
  have HADD := Lib.hid s8.below
  have G8 := Lib.hid g8
  clear g8
  clear s8 S7 T1 T2 T3 T4 T5 Hlen
  go_wp2_with fail
  refine wp_region_rs mixed (by kernel_rfl) ?_
  refine RSl.exact (.int .i64 0) rfl rfl rfl rfl (fun _ _ => rfl) ?_
  refine RSl.exact (.bool true) rfl rfl rfl rfl (fun w' ha => by simp [rho, upd, Spec.val, execOp, go_sem]) ?_
  refine RSl.exact (.bool true) rfl rfl rfl rfl (fun _ _ => rfl) ?_
  refine RSl.exact (.slice a8 96 c8) rfl rfl rfl rfl (fun _ _ => rfl) ?_
  refine RSl.exact (str ((full b).take m ++ (full a).drop m)) rfl rfl rfl rfl (fun w' ha => exec_convert rfl (run_str Try.underlying25 Try.underlying5 Try.underlying9 (G8.out w' ha))) ?_
  refine RSl.exact (bv b) rfl rfl rfl rfl (fun _ _ => rfl) ?_
  refine RSl.callS (.so (fun v w => BS w v (full b))) (Stab.bs _) _ rfl rfl rfl (fun ρ w' ha hag => ⟨[bv b].toArray, exec_go hag.2.2.2 _ [.tmp 39] _ rfl [bv b] (by rw [List.map_cons, List.map_nil, hag.ex 39 (bv b) rfl rfl rfl]) rfl, full_add b w'⟩) ?_
  refine RSl.exact (.int .i64 m) rfl rfl rfl rfl (fun _ _ => rfl) ?_
  refine RSl.value (.so (fun v w => BS w v ((full b).take m))) (Stab.bs _) rfl rfl rfl (fun ρ w' ha hag => slice_bs (lo := none) (hi := some (.tmp 41)) tB rfl (hag.so 40 _ rfl rfl rfl) 0 m (.inl ⟨rfl, rfl⟩) (.inr ⟨.i64, congrArg some (hag.ex 41 (.int .i64 m) rfl rfl rfl)⟩) (by omega) (by rw [full_len]; omega) _ (by simp)) ?_
  refine RSl.value (.ex (str ((full b).take m))) (Stab.ex _) rfl rfl rfl (fun ρ w' ha hag => ⟨_, w', exec_convert rfl (by have q := hag.so 42 _ rfl rfl rfl; have q2 := q; obtain ⟨a, c, e, -⟩ := q2; rw [e] at q ⊢; exact run_str Try.underlying25 Try.underlying5 Try.underlying9 q), Add.refl w', rfl⟩) ?_
  refine RSl.exact (bv a) rfl rfl rfl rfl (fun _ _ => rfl) ?_
  refine RSl.callS (.so (fun v w => BS w v (full a))) (Stab.bs _) _ rfl rfl rfl (fun ρ w' ha hag => ⟨[bv a].toArray, exec_go hag.2.2.2 _ [.tmp 44] _ rfl [bv a] (by rw [List.map_cons, List.map_nil, hag.ex 44 (bv a) rfl rfl rfl]) rfl, full_add a w'⟩) ?_
  refine RSl.exact (.int .i64 m) rfl rfl rfl rfl (fun _ _ => rfl) ?_
  refine RSl.value (.so (fun v w => BS w v ((full a).drop m))) (Stab.bs _) rfl rfl rfl (fun ρ w' ha hag => slice_bs (lo := some (.tmp 46)) (hi := none) tB rfl (hag.so 45 _ rfl rfl rfl) m 96 (.inr ⟨.i64, congrArg some (hag.ex 46 (.int .i64 m) rfl rfl rfl)⟩) (.inl ⟨rfl, (full_len a).symm⟩) (by omega) (by rw [full_len]; omega) _ (by rw [List.take_of_length_le]; rw [List.length_drop, full_len]; omega)) ?_
  refine RSl.value (.ex (str ((full a).drop m))) (Stab.ex _) rfl rfl rfl (fun ρ w' ha hag => ⟨_, w', exec_convert rfl (by have q := hag.so 47 _ rfl rfl rfl; have q2 := q; obtain ⟨a, c, e, -⟩ := q2; rw [e] at q ⊢; exact run_str Try.underlying25 Try.underlying5 Try.underlying9 q), Add.refl w', rfl⟩) ?_
  refine RSl.exact (str ((full b).take m ++ (full a).drop m)) rfl rfl rfl rfl (fun w' ha => by simp [rho, upd, Spec.val, execOp, go_sem]; rw [if_neg (by rw [full_len, full_len]; omega), str_add]) ?_
  refine RSl.exact (.bool true) rfl rfl rfl rfl (fun w' ha => by simp [rho, upd, Spec.val, execOp, go_sem]) ?_
  refine RSl.exact (.bool true) rfl rfl rfl rfl (fun _ _ => rfl) ?_
  refine RSl.exact (.bool true) rfl rfl rfl rfl (fun _ _ => rfl) ?_
  refine RSl.callx (.bool true) _ [] [] _ rfl rfl rfl rfl rfl (fun _ => rfl) (fun w' ha => awake_calls w') ?_
  refine RSl.exact (.bool true) rfl rfl rfl rfl (fun _ _ => rfl) ?_
  refine RSl.exact (.bool true) rfl rfl rfl rfl (fun _ _ => rfl) ?_
  refine RSl.nil fun a' w' ha hd hs hh => ?_
  obtain ⟨tm, df⟩ := a'
  have hd : df = [] := hd
  subst hd
  have h6 : tm.getD 6 undef = .bool true := hh 6 (by simp)
  clear hh
  go_wp2_with fail
  refine bodyPost_ret (results_tmp rfl _ _ _) rfl ?_
  rw [h6]
  exact ⟨rfl, HADD.out.trans (ha.mono HADD.out.size)⟩
end Go.Proofs.Yteikpbangjpilaa.DskL
