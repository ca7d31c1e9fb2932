/- TapeCuts, walked. -/
import Derived.Test.YteikpbangjpilaaTapL1
namespace Go.Proofs.Yteikpbangjpilaa.TapL
open Go Go.RowKit Go.Proofs.Yteikpbangjpilaa Go.Proofs.Yteikpbangjpilaa.Sp Go.Proofs.Yteikpbangjpilaa.Reg Go.Proofs.Yteikpbangjpilaa.SlW Go.Proofs.Yteikpbangjpilaa.Fus Go.Proofs.Yteikpbangjpilaa.TapW

set_option maxRecDepth 100000 in
set_option maxHeartbeats 4000000 in
theorem cuts_walk (a : Option Addr) (ca : Nat) (xs : List UInt8) (b : Option Addr) (cb : Nat) (bs : List UInt8) (n k : Int) (w : World) (ha : BS w (.slice a xs.length ca) xs) (_ya : xs.length * 1 ≤ 140737488351232) (hb : BS w (.slice b bs.length cb) bs) (_yb : bs.length * 1 ≤ 140737488351232) (_wn : (Lit.int .i64 n).wf = true) (_wk : (Lit.int .i64 k).wf = true) :
    Calls Try.prog 4 #[.slice a xs.length ca, .slice b bs.length cb, .int .i64 n, .int .i64 k] w fun e w' => e = .returned (.bool true) ∧ Below w.heap.size w w' := by
  by_cases hl : 500 < xs.length ∨ 500 < bs.length
  · have hl' : (500 : Int) < xs.length ∨ ¬ (500 : Int) < xs.length ∧ (500 : Int) < bs.length := by omega
    clear hl
    rcases hl' with hl | ⟨hl, hl2⟩
    all_goals
      clear ha hb
      go_enter Try.func4, Try.ntmps4
      go_wp2_with fail
      refine (new_calls none _ (St.init w)).mono ?_
      rintro e w1 ⟨p, rfl, s1⟩
      obtain ⟨bk, v, rfl, -, -⟩ := tp_open s1
      have S1 := Lib.hid s1
      clear s1
      go_wp2_with fail
      refine (awake_calls _).mono ?_
      rintro e w2 ⟨rfl, h2⟩
      have HA := Lib.hid (Add.trans S1.out.below h2)
      clear h2
      go_wp2_with fail
      go_ret
      exact ⟨rfl, HA.out⟩
  · have hl1 : (xs.length : Int) ≤ 500 := by omega
    have hl2 : (bs.length : Int) ≤ 500 := by omega
    clear hl
    have k1 := and_m16 n
    have k2 := and_m16 k
    obtain ⟨x, hx, hx2⟩ : ∃ x : Nat, n % 65536 = (x : Int) ∧ x < 65536 := ⟨(n % 65536).toNat, by omega, by omega⟩
    obtain ⟨y, hy, hy2⟩ : ∃ y : Nat, k % 65536 = (y : Int) ∧ y < 65536 := ⟨(k % 65536).toNat, by omega, by omega⟩
    rw [hx] at k1
    rw [hy] at k2
    obtain ⟨m, hm, hm2⟩ : ∃ m : Nat, (x : Int) % ((xs.length : Int) + 1) = (m : Int) ∧ m ≤ xs.length := by
      refine ⟨x % (xs.length + 1), by rw [Int.natCast_emod, Int.natCast_add]; rfl, ?_⟩
      have := Nat.mod_lt x (show 0 < xs.length + 1 by omega)
      omega
    obtain ⟨j, hj, hj2⟩ : ∃ j : Nat, (y : Int) % ((bs.length : Int) + 1) = (j : Int) ∧ j ≤ bs.length := by
      refine ⟨y % (bs.length + 1), by rw [Int.natCast_emod, Int.natCast_add]; rfl, ?_⟩
      have := Nat.mod_lt y (show 0 < bs.length + 1 by omega)
      omega
    have t1 : tApp none Tp.new xs = (0, none, ⟨xs, xs.length, false⟩) := by simp [tApp, Tp.new, fdead, fspend]; omega
    have t2 : tCut none ⟨xs, xs.length, false⟩ m = (0, none, ⟨xs.take m, 0, false⟩) := by simp [tCut, fdead, fspend]; omega
    have t3 : tApp none ⟨xs.take m, 0, false⟩ bs = (0, none, ⟨xs.take m ++ bs, bs.length, false⟩) := by simp [tApp, fdead, fspend]; omega
    have t4 : tCrash ⟨xs.take m ++ bs, bs.length, false⟩ j = ⟨xs.take m ++ bs.take j, 0, false⟩ := by
      have e1 : (xs.take m).length = m := by rw [List.length_take]; omega
      simp only [tCrash, List.length_append, e1, Tp.mk.injEq, and_true]
      rw [show m + bs.length - bs.length + min (j : Int).toNat bs.length = (xs.take m).length + j by rw [e1]; omega, List.take_length_add_append]
    have Ha := Lib.hid ha
    have Hb := Lib.hid hb
    have Hx := Lib.hid hx
    have Hy := Lib.hid hy
    have T1 := Lib.hid t1
    have T2 := Lib.hid t2
    have T3 := Lib.hid t3
    have T4 := Lib.hid t4
    clear ha hb hx hy t1 t2 t3 t4
    go_enter Try.func4, Try.ntmps4
    go_wp2_with fail
    refine (new_calls none _ (St.init w)).mono ?_
    rintro e w1 ⟨p, rfl, s1⟩
    obtain ⟨bk, v, rfl, -, -⟩ := tp_open s1
    have S1 := Lib.hid s1
    clear s1
    go_wp2_with fail
    refine (append0 Tp.new xs _ a xs.length ca w1 (reads_arg emp Ha.out) (by omega) S1.out).mono ?_
    rw [T1.out]
    rintro e w2 ⟨rfl, s2⟩
    have S2 := Lib.hid s2
    clear s2
    clear S1
    go_wp2_with fail
    refine (cut0 ⟨xs, xs.length, false⟩ m _ w2 S2.out).mono ?_
    rw [T2.out]
    rintro e w3 ⟨rfl, s3⟩
    have S3 := Lib.hid s3
    clear s3
    clear S2
    go_wp2_with fail
    refine (loose_calls _ _ _ w3 S3.out).mono ?_
    rintro e w4 ⟨rfl, s4⟩
    have S4 := Lib.hid s4
    clear s4
    clear S3
    go_wp2_with fail
    refine (append0 ⟨xs.take m, 0, false⟩ bs _ b bs.length cb w4 (reads_arg emp Hb.out) (by omega) S4.out).mono ?_
    rw [T3.out]
    rintro e w5 ⟨rfl, s5⟩
    have S5 := Lib.hid s5
    clear s5
    clear S4
    go_wp2_with fail
    refine (loose_calls _ _ _ w5 S5.out).mono ?_
    rintro e w6 ⟨rfl, s6⟩
    have S6 := Lib.hid s6
    clear s6
    clear S5
    go_wp2_with fail
    refine (crash_calls _ j _ _ w6 (by omega) S6.out).mono ?_
    rw [T4.out]
    rintro e w7 ⟨rfl, s7⟩
    have S7 := Lib.hid s7
    clear s7
    clear S6
    go_wp2_with fail
    refine (bytes_calls _ _ _ w7 S7.out).mono ?_
    rintro e w8 ⟨a8, c8, he, s8⟩
    have s8 : St _ _ _ (row 5 1 (.slice a8 (xs.take m ++ bs.take j).length c8) (xs.take m ++ bs.take j).length (bvs (xs.take m ++ bs.take j)) * _) := s8
    have he : e = .returned (.tuple #[.slice a8 (xs.take m ++ bs.take j).length c8, .int .i64 0]) := he
    have hlen : (xs.take m ++ bs.take j).length = m + j := by rw [List.length_append, List.length_take, List.length_take]; omega
    rw [hlen] at s8 he
    subst he
    clear hlen
    have hadd := s8.below
    have g8 : ∀ w', Add w8 w' → BS w' (.slice a8 (m + j) c8) (xs.take m ++ bs.take j) := fun w' h => s8.bs.below h
    have gA : ∀ w', Add w8 w' → BS w' (.slice a xs.length ca) xs := fun w' h => (Ha.out.st rfl s8).below h
    have gB : ∀ w', Add w8 w' → BS w' (.slice b bs.length cb) bs := fun w' h => (Hb.out.st rfl s8).below h
    have la : ∀ w', Add w8 w' → (Instr.sliceAt 25 (.slice a xs.length ca) none (some (.int .i64 m)) none).run Try.prog w' = .ok (.slice a m ca) w' := fun w' h => by
      have q := run_slice_sl tB w' a xs.length ca none (some (.int .i64 m)) 0 m (.inl ⟨rfl, rfl⟩) (.inr ⟨_, rfl⟩) (by omega) (by have := Ha.out.rd.2.1; omega)
      rw [q]; cases a <;> simp [Addr.add]
    have lb : ∀ w', Add w8 w' → (Instr.sliceAt 25 (.slice b bs.length cb) none (some (.int .i64 j)) none).run Try.prog w' = .ok (.slice b j cb) w' := fun w' h => by
      have q := run_slice_sl tB w' b bs.length cb none (some (.int .i64 j)) 0 j (.inl ⟨rfl, rfl⟩) (.inr ⟨_, rfl⟩) (by omega) (by have := Hb.out.rd.2.1; omega)
      rw [q]; cases b <;> simp [Addr.add]
    have gA2 : ∀ w', Add w8 w' → BS w' (.slice a m ca) (xs.take m) := fun w' h => by
      have q := (gA w' h).sub 0 m (by omega) hm2
      simpa [subA, Addr.add] using q
    have gB2 : ∀ w', Add w8 w' → BS w' (.slice b j cb) (bs.take j) := fun w' h => by
      have q := (gB w' h).sub 0 j (by omega) hj2
      simpa [subA, Addr.add] using q
    have HADD := Lib.hid hadd
    have G8 := Lib.hid g8
    have GA := Lib.hid gA
    have GB := Lib.hid gB
    have GA2 := Lib.hid gA2
    have GB2 := Lib.hid gB2
    have La := Lib.hid la
    have Lb := Lib.hid lb
    clear g8 gA gB gA2 gB2 la lb
    clear S7 s8 hadd
    go_wp2_with fail
    refine wp_region_rs mixed (by kernel_rfl) ?_
    refine RSl.exact (.int .i64 0) rfl rfl rfl rfl (fun _ _ => rfl) ?_
    refine RSl.exact (.bool true) rfl rfl rfl rfl (fun w' ha => by simp [rho, upd, Spec.val, execOp, go_sem]) ?_
    refine RSl.exact (.bool true) rfl rfl rfl rfl (fun _ _ => rfl) ?_
    refine RSl.exact (.int .i64 0) rfl rfl rfl rfl (fun _ _ => rfl) ?_
    refine RSl.exact (.bool true) rfl rfl rfl rfl (fun w' ha => by simp [rho, upd, Spec.val, execOp, go_sem]) ?_
    refine RSl.exact (.bool true) rfl rfl rfl rfl (fun _ _ => rfl) ?_
    refine RSl.exact (.bool true) rfl rfl rfl rfl (fun _ _ => rfl) ?_
    refine RSl.exact (.int .i64 0) rfl rfl rfl rfl (fun _ _ => rfl) ?_
    refine RSl.exact (.bool true) rfl rfl rfl rfl (fun w' ha => by simp [rho, upd, Spec.val, execOp, go_sem]) ?_
    refine RSl.exact (.bool true) rfl rfl rfl rfl (fun _ _ => rfl) ?_
    refine RSl.exact (.bool true) rfl rfl rfl rfl (fun _ _ => rfl) ?_
    refine RSl.exact (.int .i64 0) rfl rfl rfl rfl (fun _ _ => rfl) ?_
    refine RSl.exact (.bool true) rfl rfl rfl rfl (fun w' ha => by simp [rho, upd, Spec.val, execOp, go_sem]) ?_
    refine RSl.exact (.bool true) rfl rfl rfl rfl (fun _ _ => rfl) ?_
    refine RSl.exact (.bool true) rfl rfl rfl rfl (fun _ _ => rfl) ?_
    refine RSl.exact (.int .i64 bs.length) rfl rfl rfl rfl (fun _ _ => rfl) ?_
    refine RSl.exact (.slice b bs.length cb) rfl rfl rfl rfl (fun _ _ => rfl) ?_
    refine RSl.exact (.int .i64 bs.length) rfl rfl rfl rfl (fun w' ha => by simp [rho, upd, Spec.val, execOp, go_sem]) ?_
    refine RSl.exact (.bool true) rfl rfl rfl rfl (fun w' ha => by simp [rho, upd, Spec.val, execOp, go_sem]) ?_
    refine RSl.exact (.bool true) rfl rfl rfl rfl (fun _ _ => rfl) ?_
    refine RSl.exact (.bool true) rfl rfl rfl rfl (fun _ _ => rfl) ?_
    refine RSl.exact (.int .i64 0) rfl rfl rfl rfl (fun _ _ => rfl) ?_
    refine RSl.exact (.bool true) rfl rfl rfl rfl (fun w' ha => by simp [rho, upd, Spec.val, execOp, go_sem]) ?_
    refine RSl.exact (.bool true) rfl rfl rfl rfl (fun _ _ => rfl) ?_
    refine RSl.exact (.bool true) rfl rfl rfl rfl (fun _ _ => rfl) ?_
    refine RSl.exact (.slice a8 (m + j) c8) rfl rfl rfl rfl (fun _ _ => rfl) ?_
    refine RSl.exact (str (xs.take m ++ bs.take j)) rfl rfl rfl rfl (fun w' ha => exec_convert rfl (run_str Try.underlying25 Try.underlying5 Try.underlying9 (G8.out w' ha))) ?_
    refine RSl.exact (.slice a xs.length ca) rfl rfl rfl rfl (fun _ _ => rfl) ?_
    refine RSl.exact (.int .i64 m) rfl rfl rfl rfl (fun _ _ => rfl) ?_
    refine RSl.exact (.slice a m ca) rfl rfl rfl rfl (fun w' ha => exec_slice rfl (La.out w' ha)) ?_
    refine RSl.exact (str (xs.take m)) rfl rfl rfl rfl (fun w' ha => exec_convert rfl (run_str Try.underlying25 Try.underlying5 Try.underlying9 (GA2.out w' ha))) ?_
    refine RSl.exact (.slice b bs.length cb) rfl rfl rfl rfl (fun _ _ => rfl) ?_
    refine RSl.exact (.int .i64 j) rfl rfl rfl rfl (fun _ _ => rfl) ?_
    refine RSl.exact (.slice b j cb) rfl rfl rfl rfl (fun w' ha => exec_slice rfl (Lb.out w' ha)) ?_
    refine RSl.exact (str (bs.take j)) rfl rfl rfl rfl (fun w' ha => exec_convert rfl (run_str Try.underlying25 Try.underlying5 Try.underlying9 (GB2.out w' ha))) ?_
    refine RSl.exact (str (xs.take m ++ bs.take j)) rfl rfl rfl rfl (fun w' ha => (by simp [rho, upd, Spec.val, execOp, go_sem]; rw [if_neg (by omega)]; rw [ByteArray.mk_append_mk])) ?_
    refine RSl.exact (.bool true) rfl rfl rfl rfl (fun w' ha => by simp [rho, upd, Spec.val, execOp, go_sem]) ?_
    refine RSl.exact (.bool true) rfl rfl rfl rfl (fun _ _ => rfl) ?_
    refine RSl.exact (.bool true) rfl rfl rfl rfl (fun _ _ => rfl) ?_
    refine RSl.callx (.bool true) _ [] [] _ rfl rfl rfl rfl rfl (fun _ => rfl) (fun w' ha => awake_calls w') ?_
    refine RSl.exact (.bool true) rfl rfl rfl rfl (fun _ _ => rfl) ?_
    refine RSl.exact (.bool true) rfl rfl rfl rfl (fun _ _ => rfl) ?_
    refine RSl.nil fun a' w' ha hd hs hh => ?_
    obtain ⟨tm, df⟩ := a'
    have hd : df = [] := hd
    subst hd
    have h8 : tm.getD 8 undef = .bool true := hh 8 (by simp)
    clear hh
    go_wp2_with fail
    refine bodyPost_ret (results_tmp rfl _ _ _) rfl ?_
    rw [h8]
    exact ⟨rfl, HADD.out.trans (ha.mono HADD.out.size)⟩
end Go.Proofs.Yteikpbangjpilaa.TapL
