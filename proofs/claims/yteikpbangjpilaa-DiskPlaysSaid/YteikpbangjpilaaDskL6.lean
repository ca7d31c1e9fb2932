/- DiskPlays, walked. No condition. -/
import Derived.Test.YteikpbangjpilaaDskL5
import Derived.Deep.CutBlock
set_option linter.unusedSimpArgs false
set_option linter.unusedVariables false
namespace Go.Proofs.Yteikpbangjpilaa.DskL
open Go Go.RowKit Go.Proofs.Yteikpbangjpilaa Go.Proofs.Yteikpbangjpilaa.Sp Go.Proofs.Yteikpbangjpilaa.Reg Go.Proofs.Yteikpbangjpilaa.SlW Go.Proofs.Yteikpbangjpilaa.Fus Go.Proofs.Yteikpbangjpilaa.TapR Go.Proofs.Yteikpbangjpilaa.DskN Go.Proofs.Yteikpbangjpilaa.Rd Go.Proofs.Yteikpbangjpilaa.DskW Go.Proofs.Yteikpbangjpilaa.DskR
/-- The cells of a call. -/
def opC (kd slot pos n : Int) (fill : UInt8) (ab : Option Addr) (m cb : Nat) : Array Value := #[.int .i64 kd, .int .i64 slot, .int .i64 pos, .int .i64 n, bv fill, .slice ab m cb]

set_option maxRecDepth 100000 in
set_option maxHeartbeats 40000000 in
theorem plays_walk (slots fuse : Int) (a : Option Addr) (ca : Nat) (l : List Op) (w0 : World) (ws : (Lit.int .i64 slots).wf = true) (wf : (Lit.int .i64 fuse).wf = true) (hl : Elems ROp 6 w0 (.slice a l.length ca) l) :
    Calls Try.prog 12 #[.int .i64 slots, .int .i64 fuse, .slice a l.length ca] w0 fun e w' => e = .returned (.bool true) ∧ Below w0.heap.size w0 w' := by
  have hfu : fuse ≤ 9223372036854775807 := sm.le wf
  have hlm : l.length ≤ 9223372036854775807 := by obtain ⟨_, _, _, h1, h2, _⟩ := hl; unfold maxLen at h2; omega
  clear wf ws
  have Hl := Lib.hid hl
  clear hl
  go_enter Try.func12, Try.ntmps12
  go_wp2_with fail
  go_loopw [0, 7] (fun sl i wr => ∃ (q : Int) (k : Nat), k ≤ 2 ∧ sl = .int .i64 q ∧ i = .int .i64 k ∧ St w0.heap.size w0 wr emp) (fun _ i _ => 2 - (intOf i).toNat)
  case atStart => exact ⟨slots, 0, Nat.zero_le _, rfl, rfl, St.init w0⟩
  case round =>
    obtain ⟨q, k, hk, rfl, rfl, s⟩ := hrel
    have S := Lib.hid s
    clear s
    by_cases hlt : k < 2
    · have hlt1 : (k : Int) < 2 := by omega
      clear hlt
      go_wp2_with fail
      refine (newFuse_calls fuse _ hfu S.out).mono ?_
      rintro e w1 ⟨p, rfl, s1⟩
      obtain ⟨fb, rfl, -, -⟩ := fz_some s1
      have S1 := Lib.hid s1
      clear s1
      clear S
      go_wp2_with fail
      refine (rnewFuse_calls fuse _ S1.out).mono ?_
      rintro e w2 ⟨rfb, rfl, s2⟩
      have S2 := Lib.hid s2
      clear s2
      clear S1
      go_wp2_with fail
      refine (new_calls q (some ⟨fb, 0, none⟩) _ S2.out).mono ?_
      rintro e w3 ⟨p, rfl, s3⟩
      obtain ⟨db, _, _, _, _, rfl, -⟩ := dk_open s3
      have S3 := Lib.hid s3
      clear s3
      clear S2
      go_wp2_with fail
      refine (rdnew_calls q (some ⟨rfb, 0, none⟩) _ S3.out).mono ?_
      rintro e w4 ⟨rb, rfl, s4⟩
      have s4 : St w0.heap.size w0 w4 (Hsd db fb rb rfb (Dk.new q) (Fu.new fuse) (Rk.new q) (Fu.new fuse) emp) := s4.eq (by unfold Hsd; ac_rfl)
      clear S3
      obtain ⟨a1, c1, a2, c2, hok, z1, z2, z3, z4, s5⟩ := hsd_open s4
      have hlen : (Rk.new q).slots.length = (Dk.new q).lasts.length := (sim_new q).len
      have HOK := Lib.hid hok
      have HLEN := Lib.hid hlen
      rw [hlen] at s5
      have hz : (Dk.new q).lasts.length ≤ 64 := by rw [← hlen]; exact hok.few
      have HSIM := Lib.hid (sim_new q)
      have HP := Lib.hid (show (Dk.new q).pend.length ≤ 0 ∧ (Rk.new q).wait.length ≤ 0 from ⟨Nat.le_refl _, Nat.le_refl _⟩)
      generalize Dk.new q = D0 at *
      generalize Rk.new q = M0 at *
      clear hok hlen z1 z2 z3 z4 s4
      obtain ⟨wv, hwv⟩ : ∃ wv, wv = Value.slice a2 M0.wait.length c2 := ⟨_, rfl⟩
      rw [← hwv] at s5
      clear hwv
      have S5 := Lib.hid s5
      clear s5
      go_wp2_with fail
      refine wp_region_rx (fun j w => St w0.heap.size w0 w (Hso db fb rb rfb (.slice a1 D0.lasts.length c1) wv D0 (Fu.new fuse) M0 (Fu.new fuse) emp)) [] mixed (by kernel_rfl) (by kernel_rfl) S5.out.drew ?_
      refine RXl.exact (.pointer (some ⟨fb, 0, none⟩)) rfl rfl rfl rfl rfl (fun _ _ _ _ _ => rfl) ?_
      refine RXl.exact (.bool false) rfl rfl rfl rfl rfl (fun j τ w' hj hJ => by simp [rho, upd, Spec.val, execOp, go_sem]) ?_
      refine RXl.exact (.bool false) rfl rfl rfl rfl rfl (fun _ _ _ _ _ => rfl) ?_
      refine RXl.exact (.pointer (some ⟨db, 0, none⟩)) rfl rfl rfl rfl rfl (fun _ _ _ _ _ => rfl) ?_
      refine RXl.exact (.bool false) rfl rfl rfl rfl rfl (fun j τ w' hj hJ => by simp [rho, upd, Spec.val, execOp, go_sem]) ?_
      refine RXl.exact (.bool false) rfl rfl rfl rfl rfl (fun _ _ _ _ _ => rfl) ?_
      refine RXl.exact (.bool false) rfl rfl rfl rfl rfl (fun _ _ _ _ _ => rfl) ?_
      refine RXl.exact (.pointer (some ⟨db, 0, none⟩)) rfl rfl rfl rfl rfl (fun _ _ _ _ _ => rfl) ?_
      refine RXl.callr (.int .i64 D0.lasts.length) _ [.pointer (some ⟨db, 0, none⟩)] [.tmp 42] _ rfl rfl rfl rfl rfl rfl (fun _ => rfl) (fun j τ w' hj hJ => hso_slots w' hJ) ?_
      refine RXl.exact (.pointer (some ⟨rb, 0, none⟩)) rfl rfl rfl rfl rfl (fun _ _ _ _ _ => rfl) ?_
      refine RXl.exact (.pointer (some ⟨rb, 0, none⟩)) rfl rfl rfl rfl rfl (fun j τ w' hj hJ => by simp [rho, upd, Spec.val, execOp, go_sem]) ?_
      refine RXl.exact (.pointer (some ⟨rb, 0, none⟩)) rfl rfl rfl rfl rfl (fun j τ w' hj hJ => by simp [rho, upd, Spec.val, execOp, go_sem]) ?_
      refine RXl.exact (.slice a1 D0.lasts.length c1) rfl rfl rfl rfl rfl (fun j τ w' hj hJ => by have c := (hso_cells hJ).1; simp [rho, upd, Spec.val, execOp, go_sem, c]) ?_
      refine RXl.exact (.int .i64 D0.lasts.length) rfl rfl rfl rfl rfl (fun j τ w' hj hJ => by simp [rho, upd, Spec.val, execOp, go_sem]) ?_
      refine RXl.exact (.bool false) rfl rfl rfl rfl rfl (fun j τ w' hj hJ => by simp [rho, upd, Spec.val, execOp, go_sem]) ?_
      refine RXl.exact (.bool false) rfl rfl rfl rfl rfl (fun _ _ _ _ _ => rfl) ?_
      refine RXl.exact (.bool false) rfl rfl rfl rfl rfl (fun _ _ _ _ _ => rfl) ?_
      refine RXl.callr (.bool true) _ [] [] _ rfl rfl rfl rfl rfl rfl (fun _ => rfl) (fun j τ w' hj hJ => (awake_calls w').mono fun _ _ ⟨h1, h2⟩ => ⟨h1, St.keep hJ h2⟩) ?_
      refine RXl.exact (.bool false) rfl rfl rfl rfl rfl (fun j τ w' hj hJ => by simp [rho, upd, Spec.val, execOp, go_sem]) ?_
      refine RXl.exact (.bool false) rfl rfl rfl rfl rfl (fun _ _ _ _ _ => rfl) ?_
      refine RXl.nilx _ (Agr.upd _ _ (Agr.upd _ _ (Agr.upd _ _ (Agr.upd _ _ (Agr.upd _ _ (Agr.upd _ _ (Agr.upd _ _ (Agr.upd _ _ (Agr.upd _ _ (Agr.upd _ _ (Agr.upd _ _ (Agr.upd _ _ (Agr.upd _ _ (Agr.upd _ _ (Agr.upd _ _ (Agr.upd _ _ (Agr.upd _ _ (Agr.upd _ _ (Agr.upd _ _ (Agr.upd _ _ (Agr.base _))))))))))))))))))))) fun w6 hJ => ?_
      obtain ⟨_, hJ⟩ := hJ
      simp only [Act.put, List.setIfInBounds_toArray, List.set_cons_succ, List.set_cons_zero]
      have s6 : St w0.heap.size w0 w6 (Hsd db fb rb rfb D0 (Fu.new fuse) M0 (Fu.new fuse) emp) := hso_shut HOK.out hJ
      clear hJ S5
      have S6 := Lib.hid s6
      clear s6
      go_wp2_with fail
      go_loopw [12] (fun i wr => ∃ k : Nat, k ≤ l.length ∧ k ≤ 60 ∧ i = .int .i64 k ∧ Rel w0.heap.size w0 db fb rb rfb emp k wr) (fun i _ => 60 - (intOf i).toNat)
      case atStart => exact ⟨0, Nat.zero_le _, Nat.zero_le _, rfl, _, _, _, HSIM.out, HP.out.1, HP.out.2, S6.out⟩
      case round =>
        obtain ⟨j, hj1, hj2, rfl, D, M, F, hsim, hpd, hpm, s7⟩ := hrel
        clear S6 HSIM HP HOK HLEN
        have S7 := Lib.hid s7
        have HSIM := Lib.hid hsim
        have HP := Lib.hid (show D.pend.length ≤ j ∧ M.wait.length ≤ j from ⟨hpd, hpm⟩)
        clear hsim hpd hpm
        by_cases hlt : j < l.length ∧ j < 60
        · obtain ⟨hlt2, hlt3⟩ := hlt
          have hlt4 : (j : Int) < (l.length : Int) := by omega
          have hlt5 : (j : Int) < 60 := by omega
          obtain ⟨b0, off, cs, rfl, hcs, ⟨vb, rfl, hb, wpos, wn⟩, hcell⟩ := Hl.out.arg j hlt2
          have x0 := hcell _ _ s7 0 (by omega)
          have x1 := hcell _ _ s7 1 (by omega)
          have x2 := hcell _ _ s7 2 (by omega)
          have x3 := hcell _ _ s7 3 (by omega)
          have x4 := hcell _ _ s7 4 (by omega)
          have x5 := hcell _ _ s7 5 (by omega)
          simp at x0 x1 x2 x3 x4 x5
          obtain ⟨ab, cb, rfl, -⟩ := id hb
          generalize l[j] = o at *
          obtain ⟨kd, slot, pos, n, fill, b⟩ := o
          simp only at x0 x1 x2 x3 x4 x5 hb wpos wn
          have Hb := Lib.hid hb
          have WP := Lib.hid wpos
          have WN := Lib.hid wn
          clear hb hcell wpos wn s7
          by_cases hlen : 200 < b.length
          · have hlen' : (200 : Int) < (b.length : Int) := by omega
            clear hlen
            go_wp2_with fail
            go_ret
            exact ⟨rfl, (S7.out.alloc _).below⟩
          · have hlen' : (b.length : Int) ≤ 200 := by omega
            clear hlen
            have s8 : St w0.heap.size w0 (wr.alloc (.cells #[.int .i64 kd, .int .i64 slot, .int .i64 pos, .int .i64 n, .int .u8 (fill.toNat : Int), .slice ab b.length cb] 77)) (Hsd db fb rb rfb D F M F (pts wr.heap.size (.cells (opC kd slot pos n fill ab b.length cb) 77) * emp)) := hsd_x (S7.out.alloc (.cells (opC kd slot pos n fill ab b.length cb) 77))
            go_upto_block 4 with fail
            generalize wr.alloc _ = w8 at s8 ⊢
            generalize wr.heap.size = g at s8 ⊢
            have CG := Lib.hid (show ∀ w' D F M F2, St w0.heap.size w0 w' (Hsd db fb rb rfb D F M F2 (pts g (.cells (opC kd slot pos n fill ab b.length cb) 77) * emp)) → w'.cell? ⟨g, 0, none⟩ = some (.int .i64 kd) ∧ w'.cell? ⟨g, 1, none⟩ = some (.int .i64 slot) ∧ w'.cell? ⟨g, 2, none⟩ = some (.int .i64 pos) ∧ w'.cell? ⟨g, 3, none⟩ = some (.int .i64 n) ∧ w'.cell? ⟨g, 4, none⟩ = some (bv fill) ∧ w'.cell? ⟨g, 5, none⟩ = some (.slice ab b.length cb) from fun w' D F M F2 s => ⟨hsd_g s 0, hsd_g s 1, hsd_g s 2, hsd_g s 3, hsd_g s 4, hsd_g s 5⟩)
            have S8 := Lib.hid s8
            clear s8 x0 x1 x2 x3 x4 x5 S7
            have hg8 := CG.out _ _ _ _ _ S8.out
            obtain ⟨x0, x1, x2, x3, x4, x5⟩ := hg8
            clear hcs
            go_cut [14, 15, 16, 17] from 73 to 197 (fun _ _ _ _ wx => Rel w0.heap.size w0 db fb rb rfb (pts g (.cells (opC kd slot pos n fill ab b.length cb) 77) * emp) (j + 1) wx)
            case first =>
              have HD := Lib.hid (hsd_d S8.out)
              by_cases k0 : kd = 0
              · subst k0
                as_aux_lemma =>
                  obtain ⟨e1, F1, D1, M1, ht, hr, hs1, hp1, hq1⟩ := both_write HSIM.out F slot (full fill) j HP.out
                  have HT := Lib.hid ht
                  have HR := Lib.hid hr
                  have HS1 := Lib.hid hs1
                  have HP1 := Lib.hid (show D1.pend.length ≤ j + 1 ∧ M1.wait.length ≤ j + 1 from ⟨hp1, hq1⟩)
                  have HB := Lib.hid (show D.pend.length < 1000000 ∧ M.wait.length < 1000000 from by have := HP.out; omega)
                  clear ht hr hs1 hp1 hq1
                  have LC := Lib.hid fun (j : Nat) (vs : Nat → Value) (w' : World) (h : PJ w0.heap.size w0 (Hsd db fb rb rfb D F M F (pts g (.cells (opC 0 slot pos n fill ab b.length cb) 77) * emp)) (WF e1) (WH db fb rb rfb fill D F M D1 F1 M1 (pts g (.cells (opC 0 slot pos n fill ab b.length cb) 77) * emp)) j vs w') =>
                    show w'.cell? ⟨g, 1, none⟩ = some (.int .i64 slot) ∧ w'.cell? ⟨g, 4, none⟩ = some (bv fill) from by
                      obtain ⟨Z, ⟨Z', hZ⟩, y⟩ := PJ.any (Y := fun Z => ∃ Z', Z = pts g (.cells (opC 0 slot pos n fill ab b.length cb) 77) * Z') ⟨Hsd db fb rb rfb D F M F emp, by unfold Hsd; ac_rfl⟩ (fun k a => wh_g k a) h
                      have y := y.eq hZ
                      exact ⟨y.cell 1, y.cell 4⟩
                  go_wp2_with fail
                  refine wp_region_rv [96, 97, 103, 105] (PJ w0.heap.size w0 (Hsd db fb rb rfb D F M F (pts g (.cells (opC 0 slot pos n fill ab b.length cb) 77) * emp)) (WF e1) (WH db fb rb rfb fill D F M D1 F1 M1 (pts g (.cells (opC 0 slot pos n fill ab b.length cb) 77) * emp))) [5, 6, 12, 14] mixed (by kernel_rfl) (by kernel_rfl) (by kernel_rfl) (fun _ => S8.out.drew) ?_
                  refine RXl.exact (.pointer (some ⟨db, 0, none⟩)) rfl rfl rfl rfl rfl (fun _ _ _ _ _ => rfl) ?_
                  refine RXl.exact (.pointer (some ⟨g, 1, none⟩)) rfl rfl rfl rfl rfl (fun j τ w' hj hJ => (by obtain ⟨vs, hv, hJ⟩ := hJ; exact (by simp [rho, upd, Spec.val, execOp, go_sem]))) ?_
                  refine RXl.exact (.int .i64 slot) rfl rfl rfl rfl rfl (fun j τ w' hj hJ => (by obtain ⟨vs, hv, hJ⟩ := hJ; exact (by have c := (LC.out _ _ _ hJ).1; simp [rho, upd, Spec.val, execOp, go_sem, c]))) ?_
                  refine RXl.exact (.pointer (some ⟨g, 4, none⟩)) rfl rfl rfl rfl rfl (fun j τ w' hj hJ => (by obtain ⟨vs, hv, hJ⟩ := hJ; exact (by simp [rho, upd, Spec.val, execOp, go_sem]))) ?_
                  refine RXl.exact (bv fill) rfl rfl rfl rfl rfl (fun j τ w' hj hJ => (by obtain ⟨vs, hv, hJ⟩ := hJ; exact (by have c := (LC.out _ _ _ hJ).2; simp [rho, upd, Spec.val, execOp, go_sem, c]))) ?_
                  refine RXl.callV 0 96 rfl rfl rfl (Nat.le_of_ble_eq_true rfl) _ [.tmp 95] _ rfl rfl rfl rfl rfl (PJ.first [bv fill] (fun ρ w hag => by simp [hag.ex 95 _ rfl rfl rfl]) (fun _ => rfl) (fun w s => (full_calls fill w s).mono fun e w1 ⟨g1, h1, s1⟩ => ⟨(g1, 0), h1, s1⟩)) ?_
                  refine RXl.callV 1 97 rfl rfl rfl (Nat.le_of_ble_eq_true rfl) _ [.tmp 91, .tmp 93, .tmp 96] _ rfl rfl rfl rfl rfl (PJ.call (fun a => [.pointer (some ⟨db, 0, none⟩), .int .i64 slot, .slice (some ⟨a.1, 0, none⟩) 96 96]) (fun ρ a w h hag => by have e := h 0 96 (by decide) rfl; simp [hag.ex 91 _ rfl rfl rfl, hag.ex 93 _ rfl rfl rfl, e, WF]) (fun _ _ => rfl) (fun a w s => (hsd_write w HT.out HB.out.1 (reads_right _ reads_row) (by omega) (hsd_x s)).mono fun e w1 ⟨h1, s1⟩ => ⟨a, h1, fun _ _ => rfl, hsd_y s1⟩)) ?_
                  refine RXl.exact (.pointer (some ⟨rb, 0, none⟩)) rfl rfl rfl rfl rfl (fun _ _ _ _ _ => rfl) ?_
                  refine RXl.exact (.pointer (some ⟨g, 1, none⟩)) rfl rfl rfl rfl rfl (fun j τ w' hj hJ => (by obtain ⟨vs, hv, hJ⟩ := hJ; exact (by simp [rho, upd, Spec.val, execOp, go_sem]))) ?_
                  refine RXl.exact (.int .i64 slot) rfl rfl rfl rfl rfl (fun j τ w' hj hJ => (by obtain ⟨vs, hv, hJ⟩ := hJ; exact (by have c := (LC.out _ _ _ hJ).1; simp [rho, upd, Spec.val, execOp, go_sem, c]))) ?_
                  refine RXl.exact (.pointer (some ⟨g, 4, none⟩)) rfl rfl rfl rfl rfl (fun j τ w' hj hJ => (by obtain ⟨vs, hv, hJ⟩ := hJ; exact (by simp [rho, upd, Spec.val, execOp, go_sem]))) ?_
                  refine RXl.exact (bv fill) rfl rfl rfl rfl rfl (fun j τ w' hj hJ => (by obtain ⟨vs, hv, hJ⟩ := hJ; exact (by have c := (LC.out _ _ _ hJ).2; simp [rho, upd, Spec.val, execOp, go_sem, c]))) ?_
                  refine RXl.callV 2 103 rfl rfl rfl (Nat.le_of_ble_eq_true rfl) _ [.tmp 102] _ rfl rfl rfl rfl rfl (PJ.call (fun a => [bv fill]) (fun ρ a w h hag => by simp [hag.ex 102 _ rfl rfl rfl]) (fun _ _ => rfl) (fun a w s => (full_calls fill w s).mono fun e w1 ⟨g1, h1, s1⟩ => ⟨(a.1, g1), h1, fun k hk => by (match k, hk with | 0, _ => rfl | 1, _ => rfl), s1⟩)) ?_
                  refine RXl.valueA 2 12 rfl (by kernel_rfl) (str (full fill)) rfl rfl rfl rfl (PJ.after (fun ρ a w j hj h hag s => by have e := h 2 103 (by omega) rfl; exact exec_convert rfl (by rw [e]; exact run_str Try.underlying25 Try.underlying5 Try.underlying9 (wh_bs hj s)))) ?_
                  refine RXl.callV 3 105 rfl rfl rfl (Nat.le_of_ble_eq_true rfl) _ [.tmp 98, .tmp 100, .tmp 104] _ rfl rfl rfl rfl rfl (PJ.call (fun a => [.pointer (some ⟨rb, 0, none⟩), .int .i64 slot, str (full fill)]) (fun ρ a w h hag => by simp [hag.ex 98 _ rfl rfl rfl, hag.ex 100 _ rfl rfl rfl, hag.ex 104 _ rfl rfl rfl]) (fun _ _ => rfl) (fun a w s => (hsd_rwrite w HR.out HD.out.2 HB.out.2 (hsd_xx.1 s)).mono fun e w1 ⟨h1, s1⟩ => ⟨a, h1, fun _ _ => rfl, hsd_xx.2 s1⟩)) ?_
                  refine RXl.value (.ex (.bool false)) (Free.ex _) rfl rfl rfl rfl (fun ρ w' j hj hI hag => ⟨_, (by obtain ⟨a, e⟩ := PJ.val (hag.so 97 _ rfl rfl rfl); obtain ⟨a', e'⟩ := PJ.val (hag.so 105 _ rfl rfl rfl); simp [execOp, go_sem, e, e', WF]), rfl⟩) ?_
                  refine RXl.nilV _ (AgrL.upd _ _ (AgrL.unk 105 _ rfl (AgrL.upd _ _ (AgrL.unk 103 _ rfl (AgrL.upd _ _ (AgrL.upd _ _ (AgrL.upd _ _ (AgrL.upd _ _ (AgrL.upd _ _ (AgrL.unk 97 _ rfl (AgrL.unk 96 _ rfl (AgrL.upd _ _ (AgrL.upd _ _ (AgrL.upd _ _ (AgrL.upd _ _ (AgrL.upd _ _ (AgrL.base _))))))))))))))))) (by decide) (by decide) fun vs w9 hJ => ?_
                  simp only [puts, Act.put, List.setIfInBounds_toArray, List.set_cons_succ, List.set_cons_zero]
                  obtain ⟨a9, hv, s9⟩ := hJ
                  have S9 := Lib.hid (show St w0.heap.size w0 w9 (Hsd db fb rb rfb D1 F1 M1 F1 (pts g (.cells (opC 0 slot pos n fill ab b.length cb) 77) * emp)) from (St.right (St.right s9)))
                  clear s9 hv S8 LC HT HR
                  go_wp2_with fail
                  go_meet
                  exact ⟨D1, M1, F1, HS1.out, HP1.out.1, HP1.out.2, S9.out⟩
              · by_cases k1 : kd = 1
                · subst k1
                  clear k0
                  as_aux_lemma =>
                    go_wp2_with fail
                    refine (read_calls D _ _ slot w8 S8.out).mono ?_
                    rintro e w9 ⟨a9, c9, rfl, s9⟩
                    obtain ⟨x0, x1, x2, x3, x4, x5⟩ := CG.out _ _ _ _ _ (St.right s9)
                    obtain ⟨re, hre⟩ : ∃ re, dErr D slot = re := ⟨_, rfl⟩
                    obtain ⟨rs, hrs⟩ : ∃ rs, dRead D slot = rs := ⟨_, rfl⟩
                    have hq := sim_read HSIM.out slot
                    rw [hre, hrs] at hq
                    rw [hrs] at s9
                    rw [hre, hrs]
                    have HQ := Lib.hid hq
                    have S9 := Lib.hid (hsd_x s9)
                    clear s9 hre hrs hq S8
                    go_wp2_with fail
                    have q10 := hsd_rread w9 slot S9.out
                    rw [HQ.out.1, HQ.out.2] at q10
                    refine q10.mono ?_
                    rintro e w10 ⟨rfl, s10⟩
                    have S10 := Lib.hid (hsd_y s10)
                    clear s10 S9
                    have hcv := run_str (P := Try.prog) (w := w10) Try.underlying25 Try.underlying5 Try.underlying9 S10.out.bs
                    have S11 := Lib.hid (St.right S10.out)
                    clear S10
                    go_wp2_with fail
                    go_meet
                    exact ⟨D, M, F, HSIM.out, Nat.le_succ_of_le HP.out.1, Nat.le_succ_of_le HP.out.2, S11.out⟩
                · by_cases k2 : kd = 2
                  · subst k2
                    clear k0 k1
                    as_aux_lemma =>
                      obtain ⟨e1, D1, M1, ht, hr, hs1, hp1, hq1⟩ := both_sync HSIM.out HD.out.1 F j HP.out
                      have HT := Lib.hid ht
                      have HR := Lib.hid hr
                      have HS1 := Lib.hid hs1
                      have HP1 := Lib.hid (show D1.pend.length ≤ j + 1 ∧ M1.wait.length ≤ j + 1 from ⟨hp1, hq1⟩)
                      clear ht hr hs1 hp1 hq1
                      have q9 := hsd_sync w8 S8.out
                      rw [HT.out] at q9
                      have Q9 := Lib.hid q9
                      clear q9
                      go_wp2_with fail
                      refine Q9.out.mono ?_
                      rintro e w9 ⟨rfl, s9⟩
                      have q10 := hsd_rsync w9 s9
                      rw [HR.out] at q10
                      have Q10 := Lib.hid q10
                      clear q10 s9 S8 Q9
                      go_wp2_with fail
                      refine Q10.out.mono ?_
                      rintro e w10 ⟨rfl, s10⟩
                      have S10 := Lib.hid s10
                      clear s10 Q10
                      go_wp2_with fail
                      go_meet
                      exact ⟨D1, M1, F, HS1.out, HP1.out.1, HP1.out.2, S10.out⟩
                  · by_cases k3 : kd = 3
                    · subst k3
                      clear k0 k1 k2
                      as_aux_lemma =>
                        go_wp2_with fail
                        refine (fail_calls D _ _ w8 S8.out).mono ?_
                        rintro e w9 ⟨rfl, s9⟩
                        have s9 : St w0.heap.size w0 w9 (Hsd db fb rb rfb ⟨D.lasts, D.pend, true⟩ F M F (pts g (.cells (opC 3 slot pos n fill ab b.length cb) 77) * emp)) := s9
                        obtain ⟨a1, c1, a2, c2, hok, z1, z2, z3, z4, s9⟩ := hsd_open s9
                        have y1 := (hso_cells s9).2.1
                        have f1 := (rdkO_d (hso_r s9)).free 1
                        have HOK := Lib.hid hok
                        have S9 := Lib.hid s9
                        clear s9 hok z1 z2 z3 z4 S8
                        go_wp2_with fail
                        go_meet
                        exact ⟨⟨D.lasts, D.pend, true⟩, ⟨M.slots, false, M.wait⟩, F, sim_fail HSIM.out, Nat.le_succ_of_le HP.out.1, Nat.le_succ_of_le HP.out.2, hso_fail HOK.out S9.out⟩
                    · by_cases k4 : kd = 4
                      · subst k4
                        clear k0 k1 k2 k3
                        as_aux_lemma =>
                          go_wp2_with fail
                          refine (hsd_replace w8 S8.out).mono ?_
                          rintro e w9 ⟨rfl, s9⟩
                          have S9 := Lib.hid s9
                          clear s9 S8
                          go_wp2_with fail
                          refine (hsd_rreplace w9 S9.out).mono ?_
                          rintro e w10 ⟨rfl, s10⟩
                          have S10 := Lib.hid s10
                          clear s10 S9
                          go_wp2_with fail
                          go_meet
                          exact ⟨_, _, F, sim_replace HSIM.out, Nat.zero_le _, Nat.zero_le _, S10.out⟩
                      · by_cases k5 : kd = 5
                        · subst k5
                          clear k0 k1 k2 k3 k4
                          as_aux_lemma =>
                            obtain ⟨e1, D1, M1, ht, hr, hs1, hp1, hq1⟩ := both_rot HSIM.out HD.out.1 slot pos fill j HP.out
                            have HT := Lib.hid (show ∀ w', St w0.heap.size w0 w' (Hsd db fb rb rfb D F M F (pts g (.cells (opC 5 slot pos n fill ab b.length cb) 77) * emp)) → Calls Try.prog 44 #[.pointer (some ⟨db, 0, none⟩), .int .i64 slot, .int .i64 pos, bv fill] w' (RetS w0.heap.size w0 (Hsd db fb rb rfb D1 F M F (pts g (.cells (opC 5 slot pos n fill ab b.length cb) 77) * emp)) (.bool e1)) from fun w' s => by have q := hsd_rot w' slot pos fill s; rw [ht] at q; exact q)
                            have HR := Lib.hid (show ∀ w', St w0.heap.size w0 w' (Hsd db fb rb rfb D1 F M F (pts g (.cells (opC 5 slot pos n fill ab b.length cb) 77) * emp)) → Calls Try.prog 54 #[.pointer (some ⟨rb, 0, none⟩), .int .i64 slot, .int .i64 pos, bv fill] w' (RetS w0.heap.size w0 (Hsd db fb rb rfb D1 F M1 F (pts g (.cells (opC 5 slot pos n fill ab b.length cb) 77) * emp)) (.bool e1)) from fun w' s => by have q := hsd_rrot w' slot pos fill s; rw [hr] at q; exact q)
                            have HS1 := Lib.hid hs1
                            have HP1 := Lib.hid (show D1.pend.length ≤ j + 1 ∧ M1.wait.length ≤ j + 1 from ⟨hp1, hq1⟩)
                            clear ht hr hs1 hp1 hq1
                            go_wp2_with fail
                            refine wp_region_rx (fun j w => St w0.heap.size w0 w (Hsd db fb rb rfb (if j = 0 then D else D1) F (if j ≤ 1 then M else M1) F (pts g (.cells (opC 5 slot pos n fill ab b.length cb) 77) * emp))) [7, 15] mixed (by kernel_rfl) (by kernel_rfl) S8.out.drew ?_
                            refine RXl.exact (.pointer (some ⟨db, 0, none⟩)) rfl rfl rfl rfl rfl (fun _ _ _ _ _ => rfl) ?_
                            refine RXl.exact (.pointer (some ⟨g, 1, none⟩)) rfl rfl rfl rfl rfl (fun j τ w' hj hJ => by simp [rho, upd, Spec.val, execOp, go_sem]) ?_
                            refine RXl.exact (.int .i64 slot) rfl rfl rfl rfl rfl (fun j τ w' hj hJ => by have c := (CG.out w' _ _ _ _ hJ).2.1; simp [rho, upd, Spec.val, execOp, go_sem, c]) ?_
                            refine RXl.exact (.pointer (some ⟨g, 2, none⟩)) rfl rfl rfl rfl rfl (fun j τ w' hj hJ => by simp [rho, upd, Spec.val, execOp, go_sem]) ?_
                            refine RXl.exact (.int .i64 pos) rfl rfl rfl rfl rfl (fun j τ w' hj hJ => by have c := (CG.out w' _ _ _ _ hJ).2.2.1; simp [rho, upd, Spec.val, execOp, go_sem, c]) ?_
                            refine RXl.exact (.pointer (some ⟨g, 4, none⟩)) rfl rfl rfl rfl rfl (fun j τ w' hj hJ => by simp [rho, upd, Spec.val, execOp, go_sem]) ?_
                            refine RXl.exact (bv fill) rfl rfl rfl rfl rfl (fun j τ w' hj hJ => by have c := (CG.out w' _ _ _ _ hJ).2.2.2.2.1; simp [rho, upd, Spec.val, execOp, go_sem, c]) ?_
                            refine RXl.callj 0 (.bool e1) _ [.pointer (some ⟨db, 0, none⟩), .int .i64 slot, .int .i64 pos, bv fill] [.tmp 154, .tmp 156, .tmp 158, .tmp 160] _ rfl rfl rfl rfl rfl rfl (fun _ => rfl) (fun w' hJ => HT.out w' hJ) ?_
                            refine RXl.exact (.pointer (some ⟨rb, 0, none⟩)) rfl rfl rfl rfl rfl (fun _ _ _ _ _ => rfl) ?_
                            refine RXl.exact (.pointer (some ⟨g, 1, none⟩)) rfl rfl rfl rfl rfl (fun j τ w' hj hJ => by simp [rho, upd, Spec.val, execOp, go_sem]) ?_
                            refine RXl.exact (.int .i64 slot) rfl rfl rfl rfl rfl (fun j τ w' hj hJ => by have c := (CG.out w' _ _ _ _ hJ).2.1; simp [rho, upd, Spec.val, execOp, go_sem, c]) ?_
                            refine RXl.exact (.pointer (some ⟨g, 2, none⟩)) rfl rfl rfl rfl rfl (fun j τ w' hj hJ => by simp [rho, upd, Spec.val, execOp, go_sem]) ?_
                            refine RXl.exact (.int .i64 pos) rfl rfl rfl rfl rfl (fun j τ w' hj hJ => by have c := (CG.out w' _ _ _ _ hJ).2.2.1; simp [rho, upd, Spec.val, execOp, go_sem, c]) ?_
                            refine RXl.exact (.pointer (some ⟨g, 4, none⟩)) rfl rfl rfl rfl rfl (fun j τ w' hj hJ => by simp [rho, upd, Spec.val, execOp, go_sem]) ?_
                            refine RXl.exact (bv fill) rfl rfl rfl rfl rfl (fun j τ w' hj hJ => by have c := (CG.out w' _ _ _ _ hJ).2.2.2.2.1; simp [rho, upd, Spec.val, execOp, go_sem, c]) ?_
                            refine RXl.callj 1 (.bool e1) _ [.pointer (some ⟨rb, 0, none⟩), .int .i64 slot, .int .i64 pos, bv fill] [.tmp 162, .tmp 164, .tmp 166, .tmp 168] _ rfl rfl rfl rfl rfl rfl (fun _ => rfl) (fun w' hJ => HR.out w' hJ) ?_
                            refine RXl.exact (.bool false) rfl rfl rfl rfl rfl (fun j τ w' hj hJ => by simp [rho, upd, Spec.val, execOp, go_sem]) ?_
                            refine RXl.nilx _ (Agr.upd _ _ (Agr.upd _ _ (Agr.upd _ _ (Agr.upd _ _ (Agr.upd _ _ (Agr.upd _ _ (Agr.upd _ _ (Agr.upd _ _ (Agr.upd _ _ (Agr.upd _ _ (Agr.upd _ _ (Agr.upd _ _ (Agr.upd _ _ (Agr.upd _ _ (Agr.upd _ _ (Agr.upd _ _ (Agr.upd _ _ (Agr.base _)))))))))))))))))) fun w9 hJ => ?_
                            obtain ⟨_, hJ⟩ := hJ
                            simp only [Act.put, List.setIfInBounds_toArray, List.set_cons_succ, List.set_cons_zero]
                            have S9 := Lib.hid (show St w0.heap.size w0 w9 (Hsd db fb rb rfb D1 F M1 F (pts g (.cells (opC 5 slot pos n fill ab b.length cb) 77) * emp)) from hJ)
                            clear hJ S8 HT HR
                            go_wp2_with fail
                            go_meet
                            exact ⟨D1, M1, F, HS1.out, HP1.out.1, HP1.out.2, S9.out⟩
                        · by_cases k6 : kd = 6
                          · subst k6
                            clear k0 k1 k2 k3 k4 k5
                            as_aux_lemma =>
                              go_wp2_with fail
                              refine (hsd_crash w8 n pos WN.out WP.out S8.out).mono ?_
                              rintro e w9 ⟨rfl, s9⟩
                              obtain ⟨x0, x1, x2, x3, x4, x5⟩ := CG.out _ _ _ _ _ s9
                              have S9 := Lib.hid s9
                              clear s9 S8
                              go_wp2_with fail
                              refine (hsd_rcrash w9 n pos WN.out WP.out S9.out).mono ?_
                              rintro e w10 ⟨rfl, s10⟩
                              have S10 := Lib.hid s10
                              clear s10 S9
                              go_wp2_with fail
                              go_meet
                              exact ⟨_, _, F, sim_crash HSIM.out HD.out.1 n pos, Nat.zero_le _, Nat.zero_le _, S10.out⟩
                          · by_cases k7 : kd = 7
                            · subst k7
                              clear k0 k1 k2 k3 k4 k5 k6
                              as_aux_lemma =>
                                go_wp2_with fail
                                refine (hsd_set w8 n WN.out S8.out).mono ?_
                                rintro e w9 ⟨rfl, s9⟩
                                obtain ⟨x0, x1, x2, x3, x4, x5⟩ := CG.out _ _ _ _ _ s9
                                have S9 := Lib.hid s9
                                clear s9 S8
                                go_wp2_with fail
                                refine (rnewFuse_calls n w9 S9.out).mono ?_
                                rintro e w10 ⟨q', rfl, s10⟩
                                have q9 : St w0.heap.size w0 w10 (pts q' (.cells #[.bool (!(Fu.new n).bound), .int .i64 (Fu.new n).left] 51 (0, 0)) * Hsd db fb rb rfb D (Fu.new n) M F (pts g (.cells (opC 7 slot pos n fill ab b.length cb) 77) * emp)) := s10
                                have c0 := q9.cell 0
                                have c1 := q9.cell 1
                                have q10 := hsd_rfz q9.right
                                have d0 := q10.cell 0
                                have f0 := q10.free 0
                                have f1 := q10.free 1
                                have d2 := q10.cell 1
                                have S10 := Lib.hid q9.right
                                clear s10 q9 q10 S9
                                generalize Fu.new n = G at *
                                simp at c0 c1 d0 d2
                                go_wp2_with fail
                                go_meet
                                exact ⟨D, M, G, HSIM.out, Nat.le_succ_of_le HP.out.1, Nat.le_succ_of_le HP.out.2, hsd_rset S10.out⟩
                            · have e0 : (kd == 0) = false := by simpa using k0
                              have e1 : (kd == 1) = false := by simpa using k1
                              have e2 : (kd == 2) = false := by simpa using k2
                              have e3 : (kd == 3) = false := by simpa using k3
                              have e4 : (kd == 4) = false := by simpa using k4
                              have e5 : (kd == 5) = false := by simpa using k5
                              have e6 : (kd == 6) = false := by simpa using k6
                              have e7 : (kd == 7) = false := by simpa using k7
                              clear k0 k1 k2 k3 k4 k5 k6 k7
                              as_aux_lemma =>
                                obtain ⟨e1, F1, D1, M1, ht, hr, hs1, hp1, hq1⟩ := both_write HSIM.out F slot b j HP.out
                                have HT := Lib.hid ht
                                have HR := Lib.hid hr
                                have HS1 := Lib.hid hs1
                                have HP1 := Lib.hid (show D1.pend.length ≤ j + 1 ∧ M1.wait.length ≤ j + 1 from ⟨hp1, hq1⟩)
                                have HB := Lib.hid (show D.pend.length < 1000000 ∧ M.wait.length < 1000000 from by have := HP.out; omega)
                                clear ht hr hs1 hp1 hq1
                                go_wp2_with fail
                                refine wp_region_rx (fun j w => St w0.heap.size w0 w (Hsd db fb rb rfb (if j = 0 then D else D1) (if j = 0 then F else F1) (if j ≤ 1 then M else M1) (if j ≤ 1 then F else F1) (pts g (.cells (opC kd slot pos n fill ab b.length cb) 77) * emp))) [5, 12] mixed (by kernel_rfl) (by kernel_rfl) S8.out.drew ?_
                                refine RXl.exact (.pointer (some ⟨db, 0, none⟩)) rfl rfl rfl rfl rfl (fun _ _ _ _ _ => rfl) ?_
                                refine RXl.exact (.pointer (some ⟨g, 1, none⟩)) rfl rfl rfl rfl rfl (fun j τ w' hj hJ => by simp [rho, upd, Spec.val, execOp, go_sem]) ?_
                                refine RXl.exact (.int .i64 slot) rfl rfl rfl rfl rfl (fun j τ w' hj hJ => by have c := (CG.out w' _ _ _ _ hJ).2.1; simp [rho, upd, Spec.val, execOp, go_sem, c]) ?_
                                refine RXl.exact (.pointer (some ⟨g, 5, none⟩)) rfl rfl rfl rfl rfl (fun j τ w' hj hJ => by simp [rho, upd, Spec.val, execOp, go_sem]) ?_
                                refine RXl.exact (.slice ab b.length cb) rfl rfl rfl rfl rfl (fun j τ w' hj hJ => by have c := (CG.out w' _ _ _ _ hJ).2.2.2.2.2; simp [rho, upd, Spec.val, execOp, go_sem, c]) ?_
                                refine RXl.callj 0 (.int .i64 e1) _ [.pointer (some ⟨db, 0, none⟩), .int .i64 slot, .slice ab b.length cb] [.tmp 75, .tmp 77, .tmp 79] _ rfl rfl rfl rfl rfl rfl (fun _ => rfl) (fun w' hJ => hsd_write w' HT.out HB.out.1 (reads_arg _ Hb.out) (by omega) (show St w0.heap.size w0 w' (Hsd db fb rb rfb D F M F _) from hJ)) ?_
                                refine RXl.exact (.pointer (some ⟨rb, 0, none⟩)) rfl rfl rfl rfl rfl (fun _ _ _ _ _ => rfl) ?_
                                refine RXl.exact (.pointer (some ⟨g, 1, none⟩)) rfl rfl rfl rfl rfl (fun j τ w' hj hJ => by simp [rho, upd, Spec.val, execOp, go_sem]) ?_
                                refine RXl.exact (.int .i64 slot) rfl rfl rfl rfl rfl (fun j τ w' hj hJ => by have c := (CG.out w' _ _ _ _ hJ).2.1; simp [rho, upd, Spec.val, execOp, go_sem, c]) ?_
                                refine RXl.exact (.pointer (some ⟨g, 5, none⟩)) rfl rfl rfl rfl rfl (fun j τ w' hj hJ => by simp [rho, upd, Spec.val, execOp, go_sem]) ?_
                                refine RXl.exact (.slice ab b.length cb) rfl rfl rfl rfl rfl (fun j τ w' hj hJ => by have c := (CG.out w' _ _ _ _ hJ).2.2.2.2.2; simp [rho, upd, Spec.val, execOp, go_sem, c]) ?_
                                refine RXl.exact (str b) rfl rfl rfl rfl rfl (fun j τ w' hj hJ => exec_convert rfl (run_str Try.underlying25 Try.underlying5 Try.underlying9 (Hb.out.st rfl hJ))) ?_
                                refine RXl.callj 1 (.int .i64 e1) _ [.pointer (some ⟨rb, 0, none⟩), .int .i64 slot, str b] [.tmp 81, .tmp 83, .tmp 86] _ rfl rfl rfl rfl rfl rfl (fun _ => rfl) (fun w' hJ => hsd_rwrite w' HR.out HD.out.2 HB.out.2 (show St w0.heap.size w0 w' (Hsd db fb rb rfb D1 F1 M F _) from hJ)) ?_
                                refine RXl.exact (.bool false) rfl rfl rfl rfl rfl (fun j τ w' hj hJ => by simp [rho, upd, Spec.val, execOp, go_sem]) ?_
                                refine RXl.nilx _ (Agr.upd _ _ (Agr.upd _ _ (Agr.upd _ _ (Agr.upd _ _ (Agr.upd _ _ (Agr.upd _ _ (Agr.upd _ _ (Agr.upd _ _ (Agr.upd _ _ (Agr.upd _ _ (Agr.upd _ _ (Agr.upd _ _ (Agr.upd _ _ (Agr.upd _ _ (Agr.base _))))))))))))))) fun w9 hJ => ?_
                                obtain ⟨_, hJ⟩ := hJ
                                simp only [Act.put, List.setIfInBounds_toArray, List.set_cons_succ, List.set_cons_zero]
                                have S9 := Lib.hid (show St w0.heap.size w0 w9 (Hsd db fb rb rfb D1 F1 M1 F1 (pts g (.cells (opC kd slot pos n fill ab b.length cb) 77) * emp)) from hJ)
                                clear hJ S8 HT HR
                                go_wp2_with fail
                                go_meet
                                exact ⟨D1, M1, F1, HS1.out, HP1.out.1, HP1.out.2, S9.out⟩
            case rest =>
              as_aux_lemma =>
                clear HSIM HP S8 x0 x1 x2 x3 x4 x5 CG
                obtain ⟨D', M', F', hsim, hpd, hpm, s9⟩ := hcut
                obtain ⟨sa, sc, wa, wc', hok, z1, z2, z3, z4, s9⟩ := hsd_open s9
                have HOK := Lib.hid hok
                have HSIM := Lib.hid hsim
                have HP := Lib.hid (show D'.pend.length ≤ j + 1 ∧ M'.wait.length ≤ j + 1 from ⟨hpd, hpm⟩)
                obtain ⟨m, hm⟩ : ∃ m, M'.slots.length = m := ⟨_, rfl⟩
                have hm64 : m ≤ 64 := by rw [← hm]; exact hok.few
                obtain ⟨nw, hnw⟩ : ∃ nw, M'.wait.length = nw := ⟨_, rfl⟩
                have hnw2 : nw ≤ 100 := by omega
                rw [hm, hnw] at s9
                have HM := Lib.hid hm
                have HNW := Lib.hid hnw
                have S9 := Lib.hid s9
                clear s9 hok hsim hpd hpm hm hnw z1 z2 z3 z4
                obtain ⟨gn, hgn⟩ : ∃ gn, D'.gone = gn := ⟨_, rfl⟩
                have hml : M'.live = !gn := by rw [HSIM.out.live, hgn]
                have HGN := Lib.hid hgn
                have HML := Lib.hid hml
                clear hgn hml
                have RD := Lib.hid (show ∀ w' R, St w0.heap.size w0 w' (Hso db fb rb rfb (.slice sa m sc) (.slice wa nw wc') D' F' M' F' R) → w'.cell? ⟨rb, 0, none⟩ = some (.slice sa m sc) ∧ w'.cell? ⟨rb, 1, none⟩ = some (.bool (!gn)) ∧ w'.cell? ⟨rb, 2, none⟩ = some (.slice wa nw wc') from fun w' R s => by have q := hso_cells s; rw [HML.out] at q; exact q)
                have LV := Lib.hid (show ∀ w', St w0.heap.size w0 w' (Hso db fb rb rfb (.slice sa m sc) (.slice wa nw wc') D' F' M' F' (pts g (.cells (opC kd slot pos n fill ab b.length cb) 77) * emp)) → Calls Try.prog 46 #[.pointer (some ⟨db, 0, none⟩)] w' (RetS w0.heap.size w0 (Hso db fb rb rfb (.slice sa m sc) (.slice wa nw wc') D' F' M' F' (pts g (.cells (opC kd slot pos n fill ab b.length cb) 77) * emp)) (.bool (!gn))) from fun w' s => by have q := hso_live w' s; rw [HGN.out] at q; exact q)
                cases gn
                · have PD := Lib.hid (show ∀ w', St w0.heap.size w0 w' (Hso db fb rb rfb (.slice sa m sc) (.slice wa nw wc') D' F' M' F' (pts g (.cells (opC kd slot pos n fill ab b.length cb) 77) * emp)) → Calls Try.prog 40 #[.pointer (some ⟨db, 0, none⟩)] w' (RetS w0.heap.size w0 (Hso db fb rb rfb (.slice sa m sc) (.slice wa nw wc') D' F' M' F' (pts g (.cells (opC kd slot pos n fill ab b.length cb) 77) * emp)) (.int .i64 nw)) from fun w' s => by have q := hso_pending w' s; rw [← sim_pend HSIM.out HGN.out, HNW.out] at q; exact q)
                  go_wp2_with fail
                  refine wp_region_rx (fun j w => St w0.heap.size w0 w (Hso db fb rb rfb (.slice sa m sc) (.slice wa nw wc') D' F' M' F' (pts g (.cells (opC kd slot pos n fill ab b.length cb) 77) * emp))) [] mixed (by kernel_rfl) (by kernel_rfl) S9.out.drew ?_
                  refine RXl.exact (.pointer (some ⟨db, 0, none⟩)) rfl rfl rfl rfl rfl (fun _ _ _ _ _ => rfl) ?_
                  refine RXl.callr (.bool true) _ [.pointer (some ⟨db, 0, none⟩)] [.tmp 198] _ rfl rfl rfl rfl rfl rfl (fun _ => rfl) (fun j τ w' hj hJ => LV.out w' hJ) ?_
                  refine RXl.exact (.pointer (some ⟨rb, 0, none⟩)) rfl rfl rfl rfl rfl (fun _ _ _ _ _ => rfl) ?_
                  refine RXl.exact (.pointer (some ⟨rb, 0, none⟩)) rfl rfl rfl rfl rfl (fun j τ w' hj hJ => by simp [rho, upd, Spec.val, execOp, go_sem]) ?_
                  refine RXl.exact (.pointer (some ⟨rb, 1, none⟩)) rfl rfl rfl rfl rfl (fun j τ w' hj hJ => by simp [rho, upd, Spec.val, execOp, go_sem]) ?_
                  refine RXl.exact (.bool true) rfl rfl rfl rfl rfl (fun j τ w' hj hJ => by have c := (RD.out w' _ hJ).2.1; simp [rho, upd, Spec.val, execOp, go_sem, c]) ?_
                  refine RXl.exact (.bool false) rfl rfl rfl rfl rfl (fun j τ w' hj hJ => by simp [rho, upd, Spec.val, execOp, go_sem]) ?_
                  refine RXl.exact (.bool false) rfl rfl rfl rfl rfl (fun _ _ _ _ _ => rfl) ?_
                  refine RXl.exact (.pointer (some ⟨fb, 0, none⟩)) rfl rfl rfl rfl rfl (fun _ _ _ _ _ => rfl) ?_
                  refine RXl.callr (.bool (fdead (some F'))) _ [.pointer (some ⟨fb, 0, none⟩)] [.tmp 206] _ rfl rfl rfl rfl rfl rfl (fun _ => rfl) (fun j τ w' hj hJ => hso_dead w' hJ) ?_
                  refine RXl.exact (.pointer (some ⟨rfb, 0, none⟩)) rfl rfl rfl rfl rfl (fun _ _ _ _ _ => rfl) ?_
                  refine RXl.callr (.bool (fdead (some F'))) _ [.pointer (some ⟨rfb, 0, none⟩)] [.tmp 208] _ rfl rfl rfl rfl rfl rfl (fun _ => rfl) (fun j τ w' hj hJ => hso_rdead w' hJ) ?_
                  refine RXl.exact (.bool false) rfl rfl rfl rfl rfl (fun j τ w' hj hJ => by simp [rho, upd, Spec.val, execOp, go_sem]) ?_
                  refine RXl.exact (.bool false) rfl rfl rfl rfl rfl (fun _ _ _ _ _ => rfl) ?_
                  refine RXl.exact (.bool false) rfl rfl rfl rfl rfl (fun _ _ _ _ _ => rfl) ?_
                  refine RXl.exact (.pointer (some ⟨rb, 0, none⟩)) rfl rfl rfl rfl rfl (fun _ _ _ _ _ => rfl) ?_
                  refine RXl.exact (.pointer (some ⟨rb, 0, none⟩)) rfl rfl rfl rfl rfl (fun j τ w' hj hJ => by simp [rho, upd, Spec.val, execOp, go_sem]) ?_
                  refine RXl.exact (.pointer (some ⟨rb, 1, none⟩)) rfl rfl rfl rfl rfl (fun j τ w' hj hJ => by simp [rho, upd, Spec.val, execOp, go_sem]) ?_
                  refine RXl.exact (.bool true) rfl rfl rfl rfl rfl (fun j τ w' hj hJ => by have c := (RD.out w' _ hJ).2.1; simp [rho, upd, Spec.val, execOp, go_sem, c]) ?_
                  refine RXl.exact (.bool true) rfl rfl rfl rfl rfl (fun _ _ _ _ _ => rfl) ?_
                  refine RXl.exact (.pointer (some ⟨db, 0, none⟩)) rfl rfl rfl rfl rfl (fun _ _ _ _ _ => rfl) ?_
                  refine RXl.callr (.int .i64 nw) _ [.pointer (some ⟨db, 0, none⟩)] [.tmp 218] _ rfl rfl rfl rfl rfl rfl (fun _ => rfl) (fun j τ w' hj hJ => PD.out w' hJ) ?_
                  refine RXl.exact (.pointer (some ⟨rb, 0, none⟩)) rfl rfl rfl rfl rfl (fun _ _ _ _ _ => rfl) ?_
                  refine RXl.exact (.pointer (some ⟨rb, 0, none⟩)) rfl rfl rfl rfl rfl (fun j τ w' hj hJ => by simp [rho, upd, Spec.val, execOp, go_sem]) ?_
                  refine RXl.exact (.pointer (some ⟨rb, 2, none⟩)) rfl rfl rfl rfl rfl (fun j τ w' hj hJ => by simp [rho, upd, Spec.val, execOp, go_sem]) ?_
                  refine RXl.exact (.slice wa nw wc') rfl rfl rfl rfl rfl (fun j τ w' hj hJ => by have c := (RD.out w' _ hJ).2.2; simp [rho, upd, Spec.val, execOp, go_sem, c]) ?_
                  refine RXl.exact (.int .i64 nw) rfl rfl rfl rfl rfl (fun j τ w' hj hJ => by simp [rho, upd, Spec.val, execOp, go_sem]) ?_
                  refine RXl.exact (.bool false) rfl rfl rfl rfl rfl (fun j τ w' hj hJ => by simp [rho, upd, Spec.val, execOp, go_sem]) ?_
                  refine RXl.exact (.bool false) rfl rfl rfl rfl rfl (fun _ _ _ _ _ => rfl) ?_
                  refine RXl.exact (.bool false) rfl rfl rfl rfl rfl (fun _ _ _ _ _ => rfl) ?_
                  refine RXl.nilx _ (Agr.upd _ _ (Agr.upd _ _ (Agr.upd _ _ (Agr.upd _ _ (Agr.upd _ _ (Agr.upd _ _ (Agr.upd _ _ (Agr.upd _ _ (Agr.upd _ _ (Agr.upd _ _ (Agr.upd _ _ (Agr.upd _ _ (Agr.upd _ _ (Agr.upd _ _ (Agr.upd _ _ (Agr.upd _ _ (Agr.upd _ _ (Agr.upd _ _ (Agr.upd _ _ (Agr.upd _ _ (Agr.upd _ _ (Agr.upd _ _ (Agr.upd _ _ (Agr.upd _ _ (Agr.upd _ _ (Agr.upd _ _ (Agr.upd _ _ (Agr.upd _ _ (Agr.upd _ _ (Agr.upd _ _ (Agr.base _))))))))))))))))))))))))))))))) fun w10 hJ => ?_
                  obtain ⟨_, hJ⟩ := hJ
                  simp only [Act.put, List.setIfInBounds_toArray, List.set_cons_succ, List.set_cons_zero]
                  have S10 := Lib.hid hJ
                  clear hJ S9 LV PD
                  go_wp2_with fail
                  go_loopw [18] (fun i wr => ∃ t : Nat, i = .int .i64 t ∧ t ≤ m ∧ St w0.heap.size w0 wr (Hso db fb rb rfb (.slice sa m sc) (.slice wa nw wc') D' F' M' F' (pts g (.cells (opC kd slot pos n fill ab b.length cb) 77) * emp))) (fun i _ => m - (intOf i).toNat)
                  case atStart => exact ⟨0, rfl, Nat.zero_le _, S10.out⟩
                  case round =>
                    obtain ⟨t, rfl, ht, s11⟩ := hrel
                    clear S10
                    obtain ⟨y0, y1, y2⟩ := RD.out _ _ s11
                    by_cases hlt : t < m
                    · have hlt' : (t : Int) < (m : Int) := by omega
                      have hltM : t < M'.slots.length := by rw [HM.out]; exact hlt
                      obtain ⟨bs0, hbs⟩ : ∃ x, M'.slots[t] = x := ⟨_, rfl⟩
                      have hq := sim_slot HSIM.out HGN.out t hltM
                      rw [hbs] at hq
                      have q12 := read_calls D' _ _ (t : Int) _ s11
                      rw [hq.1, hq.2] at q12
                      have Q12 := Lib.hid q12
                      obtain ⟨sb, rfl, hsb⟩ : ∃ sb, sa = some ⟨sb, 0, none⟩ ∧ ∀ w' R, St w0.heap.size w0 w' (Hso db fb rb rfb (.slice sa m sc) (.slice wa nw wc') D' F' M' F' R) → w'.cell? ⟨sb, t, none⟩ = some (str bs0) := by
                        obtain ⟨sb, h1, -⟩ := hso_slot (a1 := sa) (c1 := sc) (by have q := s11; rw [← HM.out] at q; exact q) t hltM
                        refine ⟨sb, h1, fun w' R s => ?_⟩
                        obtain ⟨sb', h2, h3⟩ := hso_slot (a1 := sa) (c1 := sc) (by have q := s; rw [← HM.out] at q; exact q) t hltM
                        rw [h1] at h2
                        cases h2
                        rw [h3, hbs]
                      have HSB := Lib.hid hsb
                      clear hsb hq q12 hbs hltM s11 hlt
                      go_wp2_with fail
                      refine Q12.out.mono ?_
                      rintro e w12 ⟨a12, c12, rfl, s12⟩
                      have S12 := Lib.hid (show St w0.heap.size w0 w12 (row 5 1 (.slice a12 bs0.length c12) bs0.length (bvs bs0) * Hso db fb rb rfb (.slice (some ⟨sb, 0, none⟩) m sc) (.slice wa nw wc') D' F' M' F' (pts g (.cells (opC kd slot pos n fill ab b.length cb) 77) * emp)) from s12)
                      clear s12 Q12 y0 y1 y2
                      go_wp2_with fail
                      refine wp_region_rx (fun j w => St w0.heap.size w0 w (row 5 1 (.slice a12 bs0.length c12) bs0.length (bvs bs0) * Hso db fb rb rfb (.slice (some ⟨sb, 0, none⟩) m sc) (.slice wa nw wc') D' F' M' F' (pts g (.cells (opC kd slot pos n fill ab b.length cb) 77) * emp))) [] mixed (by kernel_rfl) (by kernel_rfl) S12.out.drew ?_
                      refine RXl.exact (.int .i64 0) rfl rfl rfl rfl rfl (fun _ _ _ _ _ => rfl) ?_
                      refine RXl.exact (.bool false) rfl rfl rfl rfl rfl (fun j τ w' hj hJ => by simp [rho, upd, Spec.val, execOp, go_sem]) ?_
                      refine RXl.exact (.bool false) rfl rfl rfl rfl rfl (fun _ _ _ _ _ => rfl) ?_
                      refine RXl.exact (.slice a12 bs0.length c12) rfl rfl rfl rfl rfl (fun _ _ _ _ _ => rfl) ?_
                      refine RXl.exact (str bs0) rfl rfl rfl rfl rfl (fun j τ w' hj hJ => exec_convert rfl (run_str Try.underlying25 Try.underlying5 Try.underlying9 (St.bs hJ))) ?_
                      refine RXl.exact (.pointer (some ⟨rb, 0, none⟩)) rfl rfl rfl rfl rfl (fun _ _ _ _ _ => rfl) ?_
                      refine RXl.exact (.pointer (some ⟨rb, 0, none⟩)) rfl rfl rfl rfl rfl (fun j τ w' hj hJ => by simp [rho, upd, Spec.val, execOp, go_sem]) ?_
                      refine RXl.exact (.pointer (some ⟨rb, 0, none⟩)) rfl rfl rfl rfl rfl (fun j τ w' hj hJ => by simp [rho, upd, Spec.val, execOp, go_sem]) ?_
                      refine RXl.exact (.slice (some ⟨sb, 0, none⟩) m sc) rfl rfl rfl rfl rfl (fun j τ w' hj hJ => by have c := (RD.out w' _ (St.right hJ)).1; simp [rho, upd, Spec.val, execOp, go_sem, c]) ?_
                      refine RXl.exact (.int .i64 t) rfl rfl rfl rfl rfl (fun _ _ _ _ _ => rfl) ?_
                      refine RXl.exact (.pointer (some ⟨sb, t, none⟩)) rfl rfl rfl rfl rfl (fun j τ w' hj hJ => by simp [rho, upd, Spec.val, execOp, go_sem, hlt']) ?_
                      refine RXl.exact (str bs0) rfl rfl rfl rfl rfl (fun j τ w' hj hJ => by have c := HSB.out w' _ (St.right hJ); simp [rho, upd, Spec.val, execOp, go_sem, c]) ?_
                      refine RXl.exact (.bool false) rfl rfl rfl rfl rfl (fun j τ w' hj hJ => by simp [rho, upd, Spec.val, execOp, go_sem]) ?_
                      refine RXl.exact (.bool false) rfl rfl rfl rfl rfl (fun _ _ _ _ _ => rfl) ?_
                      refine RXl.nilx _ (Agr.upd _ _ (Agr.upd _ _ (Agr.upd _ _ (Agr.upd _ _ (Agr.upd _ _ (Agr.upd _ _ (Agr.upd _ _ (Agr.upd _ _ (Agr.upd _ _ (Agr.upd _ _ (Agr.upd _ _ (Agr.upd _ _ (Agr.upd _ _ (Agr.upd _ _ (Agr.base _))))))))))))))) fun w13 hJ => ?_
                      obtain ⟨_, hJ⟩ := hJ
                      simp only [Act.put, List.setIfInBounds_toArray, List.set_cons_succ, List.set_cons_zero]
                      have S13 := Lib.hid (St.right hJ)
                      clear hJ S12 HSB
                      go_wp2_with fail
                      go_roundw
                      case rel => exact ⟨t + 1, by go_num, by omega, S13.out⟩
                      case measure => simp [intOf]; omega
                    · obtain rfl : t = m := by omega
                      have hnl : ¬ (t : Int) < (t : Int) := by omega
                      have S11 := Lib.hid s11
                      clear s11 hlt
                      go_wp2_with fail
                      go_roundw
                      case rel => exact ⟨j + 1, by omega, by omega, by go_num, _, _, _, HSIM.out, HP.out.1, HP.out.2, (hsd_y (hso_shut HOK.out S11.out)).right⟩
                      case measure => simp [intOf]; omega
                · skip
                  go_wp2_with fail
                  refine wp_region_rx (fun j w => St w0.heap.size w0 w (Hso db fb rb rfb (.slice sa m sc) (.slice wa nw wc') D' F' M' F' (pts g (.cells (opC kd slot pos n fill ab b.length cb) 77) * emp))) [] mixed (by kernel_rfl) (by kernel_rfl) S9.out.drew ?_
                  refine RXl.exact (.pointer (some ⟨db, 0, none⟩)) rfl rfl rfl rfl rfl (fun _ _ _ _ _ => rfl) ?_
                  refine RXl.callr (.bool false) _ [.pointer (some ⟨db, 0, none⟩)] [.tmp 198] _ rfl rfl rfl rfl rfl rfl (fun _ => rfl) (fun j τ w' hj hJ => LV.out w' hJ) ?_
                  refine RXl.exact (.pointer (some ⟨rb, 0, none⟩)) rfl rfl rfl rfl rfl (fun _ _ _ _ _ => rfl) ?_
                  refine RXl.exact (.pointer (some ⟨rb, 0, none⟩)) rfl rfl rfl rfl rfl (fun j τ w' hj hJ => by simp [rho, upd, Spec.val, execOp, go_sem]) ?_
                  refine RXl.exact (.pointer (some ⟨rb, 1, none⟩)) rfl rfl rfl rfl rfl (fun j τ w' hj hJ => by simp [rho, upd, Spec.val, execOp, go_sem]) ?_
                  refine RXl.exact (.bool false) rfl rfl rfl rfl rfl (fun j τ w' hj hJ => by have c := (RD.out w' _ hJ).2.1; simp [rho, upd, Spec.val, execOp, go_sem, c]) ?_
                  refine RXl.exact (.bool false) rfl rfl rfl rfl rfl (fun j τ w' hj hJ => by simp [rho, upd, Spec.val, execOp, go_sem]) ?_
                  refine RXl.exact (.bool false) rfl rfl rfl rfl rfl (fun _ _ _ _ _ => rfl) ?_
                  refine RXl.exact (.pointer (some ⟨fb, 0, none⟩)) rfl rfl rfl rfl rfl (fun _ _ _ _ _ => rfl) ?_
                  refine RXl.callr (.bool (fdead (some F'))) _ [.pointer (some ⟨fb, 0, none⟩)] [.tmp 206] _ rfl rfl rfl rfl rfl rfl (fun _ => rfl) (fun j τ w' hj hJ => hso_dead w' hJ) ?_
                  refine RXl.exact (.pointer (some ⟨rfb, 0, none⟩)) rfl rfl rfl rfl rfl (fun _ _ _ _ _ => rfl) ?_
                  refine RXl.callr (.bool (fdead (some F'))) _ [.pointer (some ⟨rfb, 0, none⟩)] [.tmp 208] _ rfl rfl rfl rfl rfl rfl (fun _ => rfl) (fun j τ w' hj hJ => hso_rdead w' hJ) ?_
                  refine RXl.exact (.bool false) rfl rfl rfl rfl rfl (fun j τ w' hj hJ => by simp [rho, upd, Spec.val, execOp, go_sem]) ?_
                  refine RXl.exact (.bool false) rfl rfl rfl rfl rfl (fun _ _ _ _ _ => rfl) ?_
                  refine RXl.exact (.bool false) rfl rfl rfl rfl rfl (fun _ _ _ _ _ => rfl) ?_
                  refine RXl.exact (.pointer (some ⟨rb, 0, none⟩)) rfl rfl rfl rfl rfl (fun _ _ _ _ _ => rfl) ?_
                  refine RXl.exact (.pointer (some ⟨rb, 0, none⟩)) rfl rfl rfl rfl rfl (fun j τ w' hj hJ => by simp [rho, upd, Spec.val, execOp, go_sem]) ?_
                  refine RXl.exact (.pointer (some ⟨rb, 1, none⟩)) rfl rfl rfl rfl rfl (fun j τ w' hj hJ => by simp [rho, upd, Spec.val, execOp, go_sem]) ?_
                  refine RXl.exact (.bool false) rfl rfl rfl rfl rfl (fun j τ w' hj hJ => by have c := (RD.out w' _ hJ).2.1; simp [rho, upd, Spec.val, execOp, go_sem, c]) ?_
                  refine RXl.exact (.bool false) rfl rfl rfl rfl rfl (fun _ _ _ _ _ => rfl) ?_
                  refine RXl.skip rfl rfl rfl rfl ?_
                  refine RXl.skip rfl rfl rfl rfl ?_
                  refine RXl.skip rfl rfl rfl rfl ?_
                  refine RXl.skip rfl rfl rfl rfl ?_
                  refine RXl.skip rfl rfl rfl rfl ?_
                  refine RXl.skip rfl rfl rfl rfl ?_
                  refine RXl.skip rfl rfl rfl rfl ?_
                  refine RXl.skip rfl rfl rfl rfl ?_
                  refine RXl.exact ((Value.bool false)) rfl rfl rfl rfl rfl (fun _ _ _ _ _ => rfl) ?_
                  refine RXl.exact ((Value.bool false)) rfl rfl rfl rfl rfl (fun _ _ _ _ _ => rfl) ?_
                  refine RXl.nilx _ (Agr.upd _ _ (Agr.upd _ _ (Agr.upd _ _ (Agr.upd _ _ (Agr.upd _ _ (Agr.upd _ _ (Agr.upd _ _ (Agr.upd _ _ (Agr.upd _ _ (Agr.upd _ _ (Agr.upd _ _ (Agr.upd _ _ (Agr.upd _ _ (Agr.upd _ _ (Agr.upd _ _ (Agr.upd _ _ (Agr.upd _ _ (Agr.upd _ _ (Agr.upd _ _ (Agr.upd _ _ (Agr.upd _ _ (Agr.upd _ _ (Agr.upd _ _ (Agr.upd _ _ (Agr.upd _ _ (Agr.upd _ _ (Agr.upd _ _ (Agr.upd _ _ (Agr.upd _ _ (Agr.upd _ _ (Agr.base _))))))))))))))))))))))))))))))) fun w10 hJ => ?_
                  obtain ⟨_, hJ⟩ := hJ
                  simp only [Act.put, List.setIfInBounds_toArray, List.set_cons_succ, List.set_cons_zero]
                  have S10 := Lib.hid hJ
                  clear hJ S9 LV
                  go_wp2_with fail
                  go_loopw [18] (fun i wr => i = .int .i64 0 ∧ St w0.heap.size w0 wr (Hso db fb rb rfb (.slice sa m sc) (.slice wa nw wc') D' F' M' F' (pts g (.cells (opC kd slot pos n fill ab b.length cb) 77) * emp))) (fun i _ => 0)
                  case atStart => exact ⟨rfl, S10.out⟩
                  case round =>
                    obtain ⟨rfl, s11⟩ := hrel
                    clear S10
                    obtain ⟨y0, y1, y2⟩ := RD.out _ _ s11
                    have S11 := Lib.hid s11
                    clear s11
                    by_cases hlt : 0 < m
                    · have hlt' : (0 : Int) < (m : Int) := by omega
                      clear hlt
                      go_wp2_with fail
                      go_roundw
                      case rel => exact ⟨j + 1, by omega, by omega, by go_num, _, _, _, HSIM.out, HP.out.1, HP.out.2, (hsd_y (hso_shut HOK.out S11.out)).right⟩
                      case measure => simp [intOf]; omega
                    · obtain rfl : m = 0 := by omega
                      clear hlt
                      go_wp2_with fail
                      go_roundw
                      case rel => exact ⟨j + 1, by omega, by omega, by go_num, _, _, _, HSIM.out, HP.out.1, HP.out.2, (hsd_y (hso_shut HOK.out S11.out)).right⟩
                      case measure => simp [intOf]; omega
        · have hend : l.length ≤ j ∨ j < l.length ∧ 60 ≤ j := by omega
          clear hlt
          rcases hend with hend | ⟨hend, hend2⟩
          · skip
            have hm : bits .and .i64 q 3 = ((q % 4).toNat : Int) := by rw [and_m2]; omega
            have hm2 : (q % 4).toNat < 4 := by omega
            have S9 := Lib.hid (show St w0.heap.size w0 wr emp from (show St w0.heap.size w0 wr (Hsd db fb rb rfb D F M F emp * emp) from S7.out.eq (sep_emp _).symm).right)
            clear S7
            generalize (q % 4).toNat = m at hm hm2
            go_wp2_with fail
            go_roundw
            case rel => exact ⟨m + 1, k + 1, by omega, by go_num, by go_num, S9.out⟩
            case measure => simp [intOf]; omega
          · skip
            have hm : bits .and .i64 q 3 = ((q % 4).toNat : Int) := by rw [and_m2]; omega
            have hm2 : (q % 4).toNat < 4 := by omega
            have S9 := Lib.hid (show St w0.heap.size w0 wr emp from (show St w0.heap.size w0 wr (Hsd db fb rb rfb D F M F emp * emp) from S7.out.eq (sep_emp _).symm).right)
            clear S7
            generalize (q % 4).toNat = m at hm hm2
            go_wp2_with fail
            go_roundw
            case rel => exact ⟨m + 1, k + 1, by omega, by go_num, by go_num, S9.out⟩
            case measure => simp [intOf]; omega
    · have hk2 : k = 2 := by omega
      subst hk2
      clear hlt
      go_wp2_with fail
      go_ret
      exact ⟨rfl, S.out.below⟩
end Go.Proofs.Yteikpbangjpilaa.DskL
