/- The laws of records, walked: RecReads. No condition. -/
import Derived.Test.YtnfkcmcchkcflaaRcL4
import Derived.Test.YtnfkcmcchkcflaaRcD7
import Derived.Test.YtnfkcmcchkcflaaRcRi
set_option linter.unusedSimpArgs false
set_option linter.unusedVariables false
namespace Go.Proofs.Ytnfkcmcchkcflaa.RcL
open Go Go.RowKit Go.Proofs.Ytnfkcmcchkcflaa Go.Proofs.Ytnfkcmcchkcflaa.Sp Go.Proofs.Ytnfkcmcchkcflaa.Reg Go.Proofs.Ytnfkcmcchkcflaa.RcM Go.Proofs.Ytnfkcmcchkcflaa.SlW Go.Proofs.Ytnfkcmcchkcflaa.Rd Go.Proofs.Ytnfkcmcchkcflaa.RcW Go.Proofs.Ytnfkcmcchkcflaa.RcD
theorem rBytes_pos (r : RcM.Rc) : 0 < (rBytes r).length := by rw [rBytes_eq]; simp
set_option maxRecDepth 100000 in
set_option maxHeartbeats 16000000 in
theorem reads_walk (a0 : Option Addr) (c0 : Nat) (bs : List UInt8) (a1 : Option Addr) (c1 : Nat) (l : List Int) (p : Int) (ub : UInt8) (q : Int) (W : World) (hb : BS W (.slice a0 bs.length c0) bs) (_y0 : bs.length * 1 ≤ 140737488351232)
    (hl : IS W (.slice a1 l.length c1) l) (_y1 : l.length * 8 ≤ 140737488351232) (_w2 : (Lit.int .i64 p).wf = true) (_w4 : (Lit.int .i64 q).wf = true) :
    Calls Try.prog 5 #[.slice a0 bs.length c0, .slice a1 l.length c1, .int .i64 p, bv ub, .int .i64 q] W fun e w' => e = .returned (.bool true) ∧ Below W.heap.size W w' := by
  have hb0 : ∀ w, Below W.heap.size W w → IS w (.slice a1 l.length c1) l := fun w h => hl.below h
  have HRC := Lib.hid (fun (w : World) (R : HP) (s : St W.heap.size W w R) => rec_calls a1 c1 l hb0 w s)
  have HZ := Lib.hid (recL_ok l)
  have hlen := rBytes_len (recL_ok l)
  have hpos := rBytes_pos (recL l)
  generalize recL l = z at *
  have HB := Lib.hid hb
  have m1 := and_m16 p
  have m2 := and_m16 q
  obtain ⟨k, hk1, hk2⟩ : ∃ k : Nat, p % 65536 % ((rBytes z).length : Int) = (k : Int) ∧ k < (rBytes z).length := by
    refine ⟨(p % 65536 % ((rBytes z).length : Int)).toNat, ?_, ?_⟩
    · have := Int.emod_nonneg (p % 65536) (show ((rBytes z).length : Int) ≠ 0 by omega); omega
    · have := Int.emod_lt_of_pos (p % 65536) (show (0 : Int) < ((rBytes z).length : Int) by omega)
      have := Int.emod_nonneg (p % 65536) (show ((rBytes z).length : Int) ≠ 0 by omega); omega
  obtain ⟨n, hn1, hn2⟩ : ∃ n : Nat, q % 65536 % (((rBytes z).length : Int) + 1) = (n : Int) ∧ n ≤ (rBytes z).length := by
    refine ⟨(q % 65536 % (((rBytes z).length : Int) + 1)).toNat, ?_, ?_⟩
    · have := Int.emod_nonneg (q % 65536) (show ((rBytes z).length : Int) + 1 ≠ 0 by omega); omega
    · have := Int.emod_lt_of_pos (q % 65536) (show (0 : Int) < ((rBytes z).length : Int) + 1 by omega)
      have := Int.emod_nonneg (q % 65536) (show ((rBytes z).length : Int) + 1 ≠ 0 by omega); omega
  have hp0 : 0 ≤ p % 65536 := by omega
  have hq0 : 0 ≤ q % 65536 := by omega
  generalize p % 65536 = pp at *
  generalize q % 65536 = qq at *
  clear hb hl hb0 _y0 _y1 _w2 _w4
  unfold bv
  by_cases hg : (300 : Int) < (bs.length : Int)
  · skip
    go_enter Try.func5, Try.ntmps5
    go_wp2_with fail
    refine (awake_calls _).mono ?_
    rintro e w1 ⟨rfl, y1⟩
    have A := Lib.hid (show Add W w1 from y1)
    clear y1
    go_wp2_with fail
    go_ret
    exact ⟨rfl, A.out⟩
  have hsz : (⟨(rBytes z).toArray⟩ : ByteArray).size = (rBytes z).length := by simp [ByteArray.size]
  go_enter Try.func5, Try.ntmps5
  go_wp2_with fail
  refine (HRC.out _ _ (St.init W)).mono ?_
  rintro e w1 ⟨sv, lw, rfl, s1⟩
  obtain ⟨e1, d1, rfl, -⟩ := s1.rowSlice
  obtain ⟨e2, d2, rfl, -⟩ := s1.right.rowSlice
  have S1 := Lib.hid s1
  have qr := recbytes_calls z (.slice e1 z.sids.length d1) (.slice e2 z.locs.length d2) w1 (St.iS s1) (St.ls s1.right) HZ.out
  unfold rcV at qr
  have QR := Lib.hid qr
  clear s1 qr HRC
  unfold rcV
  go_wp2_with fail
  refine QR.out.mono ?_
  rintro e w2 ⟨rfl, y2⟩
  obtain ⟨cap, C, w3, hr, h1, h2, h3, h4, s3⟩ := conv_st (rBytes z) (by unfold maxLen; omega) (S1.out.keep y2)
  generalize hX : row 3 1 (.slice e1 z.sids.length d1) z.sids.length (ivs z.sids) * (row 31 3 (.slice e2 z.locs.length d2) z.locs.length (z.locs.flatMap lcC) * emp) = X at s3
  have ck : ∃ u, w3.cell? ⟨w2.heap.size, k, none⟩ = some u := by
    rw [s3.cell k]
    exact ⟨C[k]'(by omega), Array.getElem?_eq_getElem _⟩
  obtain ⟨u, ck⟩ := ck
  have fk := frozen_far s3 (i := k) (by omega)
  have S4 := Lib.hid (s3.set k (bv ub))
  have h5 : (C.setIfInBounds k (bv ub)).toList.take ((rBytes z).set k ub).length = bvs ((rBytes z).set k ub) := by
    rw [List.length_set, Array.toList_setIfInBounds, List.take_set, h4]
    simp [bvs, List.map_set]
  have HBR := Lib.hid (show BR W.heap.size W (pts w2.heap.size (.cells (C.setIfInBounds k (bv ub)) 5 (cap, cap + 1)) * X) (.slice (some ⟨w2.heap.size, 0, none⟩) (rBytes z).length cap) ((rBytes z).set k ub) from fun w K s => by
    have q := blk_bs (F := (rBytes z).set k ub) (by rw [List.length_set]; exact h2) h3 h5 (s.eq (Q := pts w2.heap.size (.cells (C.setIfInBounds k (bv ub)) 5 (cap, cap + 1)) * (X * K)) (by ac_rfl))
    rw [List.length_set] at q
    exact q)
  clear s3 y2 QR S1 hX h5 h4 h1
  have hkI : (k : Int) < ((rBytes z).length : Int) := by omega
  generalize hY0 : pts w2.heap.size (.cells (C.setIfInBounds k (bv ub)) 5 (cap, cap + 1)) * X = Y0 at S4 HBR
  clear hY0
  generalize w2.heap.size = gc at *
  go_wp2_with fail
  rw [hk1]
  clear hk1
  go_loopw [13] (fun i wr => ∃ j : Nat, j ≤ 4 ∧ i = .int .i64 j ∧ ∃ H, St W.heap.size W wr (H * Y0)) (fun i => fun _ => 4 - (intOf i).toNat)
  case atStart => exact ⟨0, Nat.zero_le _, rfl, emp, S4.out.eq (emp_sep _).symm⟩
  case round =>
    obtain ⟨j, hj, rfl, H, s⟩ := hrel
    clear ck fk S4
    by_cases hlt : j < 4
    · have hltI : (j : Int) < 4 := by omega
      have S := Lib.hid s
      have H0 := Lib.hid (show BR W.heap.size W (H * Y0) (.slice a0 bs.length c0) bs from fun w K s => HB.out.st rfl s)
      have H1 := Lib.hid (show BR W.heap.size W (H * Y0) (.slice (some ⟨gc, 0, none⟩) (rBytes z).length cap) ((rBytes z).set k ub) from fun w K s => HBR.out w (H * K) (s.eq (by ac_rfl)))
      clear s hj
      go_wp2_with fail
      refine wp_region_rz (RID W.heap.size W (H * Y0) (rBytes z) ub n j (.slice a0 bs.length c0) (.slice (some ⟨gc, 0, none⟩) (rBytes z).length cap)) [3, 10, 12, 14, 15, 16, 18, 19, 20] mixed (by kernel_rfl) (by kernel_rfl) (RID.loc rfl rfl rfl rfl rfl rfl rfl rfl rfl) (RID.start S.out.drew) ?_
      refine RZl.exact (.slice a0 bs.length c0) rfl rfl rfl rfl rfl (fun _ _ _ _ => rfl) ?_
      refine RZl.exact (.slice (some ⟨gc, 0, none⟩) (rBytes z).length cap) rfl rfl rfl rfl rfl (fun _ _ _ _ => rfl) ?_
      refine RZl.exact (str (rBytes z)) rfl rfl rfl rfl rfl (fun _ _ _ _ => rfl) ?_
      refine RZl.eff (.so fun _ _ => True) (Free.so _) rfl rfl rfl rfl (fun a' w' D hal hI hsz hag => ?_) ?_
      · have d3 := (hal 3 (by simp)).2 (.inr rfl)
        have d10 := (hal 10 (by simp)).2 (.inl (by kernel_rfl))
        have d16 := (hal 16 (by simp)).2 (.inl (by kernel_rfl))
        have d19 := (hal 19 (by simp)).2 (.inl (by kernel_rfl))
        have d20 := (hal 20 (by simp)).2 (.inl (by kernel_rfl))
        obtain ⟨v, w2', hr, h2⟩ := RI.s3 (by omega) hI d3 d10 d16 d19 d20
        have e42 : a'.eval (.tmp 42) = str (rBytes z) := hag.ex 42 _ rfl rfl rfl
        refine ⟨v, w2', ?_, trivial, RID.put3 (by rw [hsz]; exact Nat.le_of_ble_eq_true rfl) h2⟩
        generalize a'.eval = ρ at e42 ⊢
        simp [execOp, e42, hr, Result.andThen]
      refine RZl.exact (.int .i64 q) rfl rfl rfl rfl rfl (fun _ _ _ _ => rfl) ?_
      refine RZl.exact (.int .i64 qq) rfl rfl rfl rfl rfl (fun _ _ _ _ => by simp [rho, upd, Spec.val, execOp, go_sem, resolve, invoke, builtin, m2]) ?_
      refine RZl.exact (str (rBytes z)) rfl rfl rfl rfl rfl (fun _ _ _ _ => rfl) ?_
      refine RZl.exact (.int .i64 (rBytes z).length) rfl rfl rfl rfl rfl (fun _ _ _ _ => by simp [rho, upd, Spec.val, execOp, go_sem, resolve, invoke, builtin, len_str]) ?_
      refine RZl.exact (.int .i64 ((rBytes z).length + 1)) rfl rfl rfl rfl rfl (fun _ _ _ _ => by simp [rho, upd, Spec.val, execOp, go_sem]; rw [IntKind.wrap_i64]; omega) ?_
      refine RZl.exact (.int .i64 n) rfl rfl rfl rfl rfl (fun _ _ _ _ => by have e := hn1; have e2 := hq0; simp [rho, upd, Spec.val, execOp, go_sem]; rw [if_neg (by omega), Int.tmod_eq_emod_of_nonneg hq0, hn1]) ?_
      refine RZl.eff (.so fun _ _ => True) (Free.so _) rfl rfl rfl rfl (fun a' w' D hal hI hsz hag => ?_) ?_
      · have d10 := (hal 10 (by simp)).2 (.inr rfl)
        have d3 := (hal 3 (by simp)).1 (by kernel_rfl)
        obtain ⟨v, hr, h2⟩ := RI.s10 hn2 hI d3
        have e43 : a'.eval (.tmp 43) = slotsOf a' 43 := rfl
        have e49 : a'.eval (.tmp 49) = .int .i64 n := hag.ex 49 _ rfl rfl rfl
        refine ⟨v, w', ?_, trivial, RID.put10 (by rw [hsz]; exact Nat.le_of_ble_eq_true rfl) h2⟩
        generalize a'.eval = ρ at e43 e49 ⊢
        generalize slotsOf a' 43 = u43 at e43 hr
        simp [execOp, e43, e49, hr, Result.andThen]
      refine RZl.exact (str (rBytes z)) rfl rfl rfl rfl rfl (fun _ _ _ _ => rfl) ?_
      refine RZl.eff (.so fun _ _ => True) (Free.so _) rfl rfl rfl rfl (fun a' w' D hal hI hsz hag => ?_) ?_
      · have d12 := (hal 12 (by simp)).2 (.inr rfl)
        have d15 := (hal 15 (by simp)).2 (.inl (by kernel_rfl))
        obtain ⟨v, w2', hr, h2⟩ := RI.s12 (by omega) hI d12 d15
        have e51 : a'.eval (.tmp 51) = str (rBytes z) := hag.ex 51 _ rfl rfl rfl
        refine ⟨v, w2', ?_, trivial, RID.put12 (by rw [hsz]; exact Nat.le_of_ble_eq_true rfl) h2⟩
        generalize a'.eval = ρ at e51 ⊢
        simp [execOp, e51, hr, Result.andThen]
      refine RZl.exact (bv ub) rfl rfl rfl rfl rfl (fun _ _ _ _ => rfl) ?_
      refine RZl.eff (.so fun _ _ => True) (Free.so _) rfl rfl rfl rfl (fun a' w' D hal hI hsz hag => ?_) ?_
      · have d14 := (hal 14 (by simp)).2 (.inr rfl)
        have d15 := (hal 15 (by simp)).2 (.inl (by kernel_rfl))
        have h2 := RI.s14 hI d14 d15
        have e53 : a'.eval (.tmp 53) = bv ub := hag.ex 53 _ rfl rfl rfl
        refine ⟨_, _, ?_, trivial, RID.put14 (by rw [hsz]; exact Nat.le_of_ble_eq_true rfl) h2⟩
        generalize a'.eval = ρ at e53 ⊢
        simp [execOp, go_sem, e53]
      refine RZl.eff (.so fun _ _ => True) (Free.so _) rfl rfl rfl rfl (fun a' w' D hal hI hsz hag => ?_) ?_
      · have d15 := (hal 15 (by simp)).2 (.inr rfl)
        have d12 := (hal 12 (by simp)).1 (by kernel_rfl)
        have d14 := (hal 14 (by simp)).1 (by kernel_rfl)
        have d16 := (hal 16 (by simp)).2 (.inl (by kernel_rfl))
        have d19 := (hal 19 (by simp)).2 (.inl (by kernel_rfl))
        have d20 := (hal 20 (by simp)).2 (.inl (by kernel_rfl))
        obtain ⟨v, w2', hr, h2⟩ := RI.s15 32 (by omega) hI d12 d14 d15 d16 d19 d20
        have e52 : a'.eval (.tmp 52) = slotsOf a' 52 := rfl
        have e54 : a'.eval (.tmp 54) = slotsOf a' 54 := rfl
        refine ⟨v, w2', ?_, trivial, RID.put15 (by rw [hsz]; exact Nat.le_of_ble_eq_true rfl) h2⟩
        generalize a'.eval = ρ at e52 e54 ⊢
        generalize slotsOf a' 52 = u52 at e52 hr
        generalize slotsOf a' 54 = u54 at e54 hr
        simp [execOp, resolve, invoke, builtin, e52, e54, hr, Result.andThen]
      refine RZl.eff (.so fun _ _ => True) (Free.so _) rfl rfl rfl rfl (fun a' w' D hal hI hsz hag => ?_) ?_
      · have d16 := (hal 16 (by simp)).2 (.inr rfl)
        have d10 := (hal 10 (by simp)).1 (by kernel_rfl)
        have d15 := (hal 15 (by simp)).1 (by kernel_rfl)
        have d18 := (hal 18 (by simp)).2 (.inl (by kernel_rfl))
        have d19 := (hal 19 (by simp)).2 (.inl (by kernel_rfl))
        have d20 := (hal 20 (by simp)).2 (.inl (by kernel_rfl))
        have h2 := RI.s16 hI d10 d15 d16 d18 d19 d20
        have e40 : a'.eval (.tmp 40) = .slice a0 bs.length c0 := hag.ex 40 _ rfl rfl rfl
        have e41 : a'.eval (.tmp 41) = .slice (some ⟨gc, 0, none⟩) (rBytes z).length cap := hag.ex 41 _ rfl rfl rfl
        obtain ⟨ga, ca, gb, cb, f10, f15⟩ := RI.shape hI d10 d15
        have e50 : a'.eval (.tmp 50) = .slice (some ⟨ga, 0, none⟩) n ca := f10
        have e55 : a'.eval (.tmp 55) = .slice (some ⟨gb, 0, none⟩) ((rBytes z).length + 1) cb := f15
        refine ⟨_, _, ?_, trivial, RID.put16 (by rw [hsz]; exact Nat.le_of_ble_eq_true rfl) h2⟩
        rw [f10, f15]
        generalize a'.eval = ρ at e40 e41 e50 e55 ⊢
        simp [execOp, go_sem, e40, e41, e50, e55]
      refine RZl.exact (.int .i64 j) rfl rfl rfl rfl rfl (fun _ _ _ _ => rfl) ?_
      refine RZl.eff (.so fun _ _ => True) (Free.so _) rfl rfl rfl rfl (fun a' w' D hal hI hsz hag => ?_) ?_
      · have d18 := (hal 18 (by simp)).2 (.inr rfl)
        have d16 := (hal 16 (by simp)).1 (by kernel_rfl)
        obtain ⟨g, eg, h2⟩ := RI.s18 hI d16
        have e56 : a'.eval (.tmp 56) = .slice (some ⟨g, 0, none⟩) 4 4 := eg
        have e57 : a'.eval (.tmp 57) = .int .i64 j := hag.ex 57 _ rfl rfl rfl
        refine ⟨_, w', ?_, trivial, RID.put18 (by rw [hsz]; exact Nat.le_of_ble_eq_true rfl) h2⟩
        generalize a'.eval = ρ at e56 e57 ⊢
        simp [execOp, go_sem, e56, e57, hltI]
      refine RZl.eff (.so fun _ _ => True) (Free.so _) rfl rfl rfl rfl (fun a' w' D hal hI hsz hag => ?_) ?_
      · have d19 := (hal 19 (by simp)).2 (.inr rfl)
        have d10 := (hal 10 (by simp)).1 (by kernel_rfl)
        have d15 := (hal 15 (by simp)).1 (by kernel_rfl)
        have d16 := (hal 16 (by simp)).1 (by kernel_rfl)
        have d18 := (hal 18 (by simp)).1 (by kernel_rfl)
        obtain ⟨v, hr, h2⟩ := RI.s19 hlt hI d10 d15 d16 d18
        have e58 : a'.eval (.tmp 58) = slotsOf a' 58 := rfl
        refine ⟨v, w', ?_, trivial, RID.put19 (by rw [hsz]; exact Nat.le_of_ble_eq_true rfl) h2⟩
        generalize a'.eval = ρ at e58 ⊢
        generalize slotsOf a' 58 = u58 at e58 hr
        simp [execOp, e58, hr, Result.andThen]
      refine RZl.eff (.so fun _ _ => True) (Free.so _) rfl rfl rfl rfl (fun a' w' D hal hI hsz hag => ?_) ?_
      · have d20 := (hal 20 (by simp)).2 (.inr rfl)
        have d19 := (hal 19 (by simp)).1 (by kernel_rfl)
        have h2 := RI.s20 hI d19
        have e59 : a'.eval (.tmp 59) = slotsOf a' 59 := rfl
        refine ⟨slotsOf a' 59, w', ?_, trivial, RID.put20 (by rw [hsz]; exact Nat.le_of_ble_eq_true rfl) h2⟩
        generalize a'.eval = ρ at e59 ⊢
        simp [execOp, go_sem, e59]
      refine RZl.nilL [43, 50, 52, 54, 55, 56, 58, 59, 14] _ (AgrL.unk 14 _ rfl (AgrL.unk 59 _ rfl (AgrL.unk 58 _ rfl (AgrL.upd _ _ (AgrL.unk 56 _ rfl (AgrL.unk 55 _ rfl (AgrL.unk 54 _ rfl (AgrL.upd _ _ (AgrL.unk 52 _ rfl (AgrL.upd _ _ (AgrL.unk 50 _ rfl (AgrL.upd _ _ (AgrL.upd _ _ (AgrL.upd _ _ (AgrL.upd _ _ (AgrL.upd _ _ (AgrL.upd _ _ (AgrL.unk 43 _ rfl (AgrL.upd _ _ (AgrL.upd _ _ (AgrL.upd _ _ (AgrL.base _)))))))))))))))))))))) (by decide) (by intro d hd; simp at hd; rcases hd with rfl | rfl | rfl | rfl | rfl | rfl | rfl | rfl | rfl <;> exact Nat.le_of_ble_eq_true rfl) fun vs τ w9 hvs hI => ?_
      simp only [puts, Act.put, List.setIfInBounds_toArray, List.set_cons_succ, List.set_cons_zero]
      obtain ⟨H', s9, hbr⟩ := RID.fin hn2 hlt hI bs ((rBytes z).set k ub) H0.out H1.out
      rw [hvs 8 14 rfl] at hbr
      have hxl : (([bs, (rBytes z).set k ub, (rBytes z).take n, rBytes z ++ [ub]] : List (List UInt8)).getD j []).length ≤ 400 := by
        obtain rfl | rfl | rfl | rfl : j = 0 ∨ j = 1 ∨ j = 2 ∨ j = 3 := by omega
        · show bs.length ≤ 400; omega
        · show ((rBytes z).set k ub).length ≤ 400; rw [List.length_set]; omega
        · show ((rBytes z).take n).length ≤ 400; rw [List.length_take]; omega
        · show (rBytes z ++ [ub]).length ≤ 400; rw [List.length_append, List.length_singleton]; omega
      generalize ([bs, (rBytes z).set k ub, (rBytes z).take n, rBytes z ++ [ub]] : List (List UInt8)).getD j [] = xs at *
      obtain ⟨ax, cx, ex, -⟩ := hbr w9 emp (s9.eq (sep_emp _).symm)
      rw [show vs 8 = .slice ax xs.length cx from ex] at hbr ⊢
      have S9 := Lib.hid s9
      have HBX := Lib.hid hbr
      clear hI hbr s9 ex hvs
      have qd := decode_calls ax cx xs w9 (R := H' * (H * Y0)) (fun w K s => HBX.out w K (s.eq (sep_comm _ _))) S9.out
      have HO := Lib.hid (show ∃ o, rOf xs = o from ⟨_, rfl⟩)
      generalize ho : rOf xs = o at qd
      have QD := Lib.hid qd
      have HO2 := Lib.hid ho
      clear qd ho HO
      go_wp2_with fail
      refine QD.out.mono ?_
      rintro e w4 ⟨sv4, lv4, rfl, s4⟩
      obtain ⟨a3, c3, rfl, -⟩ := s4.rowSlice
      obtain ⟨a4, c4, rfl, -⟩ := s4.right.rowSlice
      generalize hr : o.getD Rc.zero = r at *
      unfold rcV
      have s5 := s4.alloc (.cells (rcA r (.slice a3 r.sids.length c3) (.slice a4 r.locs.length c4)) 27)
      have hstr := run_str (P := Try.prog) Try.underlying32 Try.underlying5 Try.underlying9 (HBX.out _ (pts w4.heap.size (.cells (rcA r (.slice a3 r.sids.length c3) (.slice a4 r.locs.length c4)) 27 (0, 0)) * (row 3 1 (.slice a3 r.sids.length c3) r.sids.length (ivs r.sids) * row 31 3 (.slice a4 r.locs.length c4) r.locs.length (r.locs.flatMap lcC))) (s5.eq (by ac_rfl)))
      have qo := recof_calls _ xs (by omega) _ s5
      rw [HO2.out] at qo
      have QO := Lib.hid qo
      unfold rcA at hstr QO
      clear s4 s5 QD qo S9
      go_wp2_with fail
      refine QO.out.mono ?_
      rintro e w5 ⟨sv5, lv5, rfl, s6⟩
      obtain ⟨a5, c5, rfl, -⟩ := s6.rowSlice
      obtain ⟨a6, c6, rfl, -⟩ := s6.right.rowSlice
      rw [hr] at s6 ⊢
      unfold rcV
      have s7 := s6.alloc (.cells (rcA r (.slice a5 r.sids.length c5) (.slice a6 r.locs.length c6)) 27)
      have s8 := s7.eq (Q := pts w4.heap.size (.cells (rcA r (.slice a3 r.sids.length c3) (.slice a4 r.locs.length c4)) 27 (0, 0)) * (row 3 1 (.slice a3 r.sids.length c3) r.sids.length (ivs r.sids) * (row 31 3 (.slice a4 r.locs.length c4) r.locs.length (r.locs.flatMap lcC) * (pts w5.heap.size (.cells (rcA r (.slice a5 r.sids.length c5) (.slice a6 r.locs.length c6)) 27 (0, 0)) * (row 3 1 (.slice a5 r.sids.length c5) r.sids.length (ivs r.sids) * (row 31 3 (.slice a6 r.locs.length c6) r.locs.length (r.locs.flatMap lcC) * (H' * (H * Y0)))))))) (by unfold rcA; ac_rfl)
      have hsr := samerec_calls r r (.slice a3 r.sids.length c3) (.slice a4 r.locs.length c4) (.slice a5 r.sids.length c5) (.slice a6 r.locs.length c6) _ (St.iS s8.right) (St.iS s8.right.right.right.right) (St.ls s8.right.right) (St.ls s8.right.right.right.right.right)
      rw [decide_eq_true (rfl : r = r)] at hsr
      unfold rcV rcA at hsr
      have QS := Lib.hid hsr
      have S8 := Lib.hid s8
      clear hstr s6 s7 s8 hsr QO
      have x0 := (S8.out).cell 0
      have x1 := (S8.out).cell 1
      have x2 := (S8.out).cell 2
      have x3 := (S8.out).cell 3
      have x4 := (S8.out).cell 4
      have x5 := (S8.out).cell 5
      have x6 := (S8.out).cell 6
      have x7 := (S8.out).cell 7
      have x8 := (S8.out).cell 8
      have x9 := (S8.out).cell 9
      have x10 := (S8.out).cell 10
      have x11 := (S8.out).cell 11
      have x12 := (S8.out).cell 12
      unfold rcA at x0 x1 x2 x3 x4 x5 x6 x7 x8 x9 x10 x11 x12
      simp at x0 x1 x2 x3 x4 x5 x6 x7 x8 x9 x10 x11 x12
      have y0 := ((S8.out.right.right.right)).cell 0
      have y1 := ((S8.out.right.right.right)).cell 1
      have y2 := ((S8.out.right.right.right)).cell 2
      have y3 := ((S8.out.right.right.right)).cell 3
      have y4 := ((S8.out.right.right.right)).cell 4
      have y5 := ((S8.out.right.right.right)).cell 5
      have y6 := ((S8.out.right.right.right)).cell 6
      have y7 := ((S8.out.right.right.right)).cell 7
      have y8 := ((S8.out.right.right.right)).cell 8
      have y9 := ((S8.out.right.right.right)).cell 9
      have y10 := ((S8.out.right.right.right)).cell 10
      have y11 := ((S8.out.right.right.right)).cell 11
      have y12 := ((S8.out.right.right.right)).cell 12
      unfold rcA at y0 y1 y2 y3 y4 y5 y6 y7 y8 y9 y10 y11 y12
      simp at y0 y1 y2 y3 y4 y5 y6 y7 y8 y9 y10 y11 y12
      unfold rcA at S8
      clear hr
      cases o
      all_goals
        go_wp2_with fail
        refine QS.out.mono ?_
        rintro e w6 ⟨rfl, y6⟩
        have S10 := Lib.hid (show St W.heap.size W w6 _ from S8.out.keep y6)
        clear x0 x1 x2 x3 x4 x5 x6 x7 x8 x9 x10 x11 x12 y0 y1 y2 y3 y4 y5 y6 y7 y8 y9 y10 y11 y12 S8
        go_wp2_with fail
        go_roundw
        case rel =>
          exact ⟨j + 1, by omega, by go_num, _, S10.out.eq (by rw [← sep_assoc, ← sep_assoc, ← sep_assoc, ← sep_assoc, ← sep_assoc, ← sep_assoc, ← sep_assoc])⟩
        case measure => simp [intOf]; omega
    · obtain rfl : j = 4 := by omega
      have S := Lib.hid s.below
      clear s
      go_wp2_with fail
      refine (awake_calls _).mono ?_
      rintro e w6 ⟨rfl, y6⟩
      have S6 := Lib.hid (show Below W.heap.size W w6 from (St.init W |>.keep S.out |>.keep y6).below)
      clear y6
      go_wp2_with fail
      go_ret
      exact ⟨rfl, S6.out⟩
end Go.Proofs.Ytnfkcmcchkcflaa.RcL
