/- TapeBegins, walked. -/
import Derived.Test.YteikpbangjpilaaTapL1
import Derived.Test.YteikpbangjpilaaSlo
namespace Go.Proofs.Yteikpbangjpilaa.TapL
open Go Go.RowKit Go.Proofs.Yteikpbangjpilaa Go.Proofs.Yteikpbangjpilaa.Sp Go.Proofs.Yteikpbangjpilaa.Reg Go.Proofs.Yteikpbangjpilaa.SlW Go.Proofs.Yteikpbangjpilaa.Fus Go.Proofs.Yteikpbangjpilaa.TapW

/-- A call. -/
structure Op where
  kind : Int
  n : Int
  b : List UInt8
def ROp (w : World) (cs : List Value) (o : Op) : Prop := ∃ v, cs = [.int .i64 o.kind, .int .i64 o.n, v] ∧ BS w v o.b ∧ (Lit.int .i64 o.kind).wf = true ∧ (Lit.int .i64 o.n).wf = true
theorem ROp.below {w w' : World} {cs : List Value} {o : Op} (h : ROp w cs o) (hb : Below w.heap.size w w') : ROp w' cs o := let ⟨v, h1, h2, h3⟩ := h; ⟨v, h1, h2.below hb, h3⟩

open Go.ChangeShapes Go.WideShapes in
theorem open_op {H : Type} {enc : TypeId × Value → H} {W : World} {base : Nat} {held : Bool} (fuel : Nat) (cs : List Value) (x : DataW H × List MemPlace) (hl : cs.length = 3)
    (h : DataW.trod enc Try.prog W base (fun _ => true) held fuel 27 cs = some x) : ∃ y, ROp W cs y := by
  obtain ⟨-, hf⟩ := open_fields Try.underlying27 (L := [(3, 0), (3, 1), (25, 2)]) (by kernel_rfl) h
  match cs, hl with
  | [u0, u1, u2], _ =>
    obtain ⟨n0, y0, h0⟩ := hf 0 _ _ rfl
    obtain ⟨n1, y1, h1⟩ := hf 1 _ _ rfl
    obtain ⟨n2, y2, h2⟩ := hf 2 _ _ rfl
    rw [show Try.prog.cellsOf 3 = 1 by kernel_rfl] at h0 h1
    rw [show Try.prog.cellsOf 25 = 1 by kernel_rfl] at h2
    obtain ⟨m0, e0, -, g0⟩ := DataW.trod_int Try.underlying3 h0
    obtain ⟨m1, e1, -, g1⟩ := DataW.trod_int Try.underlying3 h1
    obtain ⟨v, bs, e2, g2⟩ := open_bytes Try.underlying25 Try.underlying5 (by kernel_rfl) h2
    simp at e0 e1 e2
    subst e0 e1 e2
    exact ⟨⟨m0, m1, bs⟩, _, rfl, g2, g0, g1⟩
set_option maxRecDepth 100000 in
set_option maxHeartbeats 4000000 in
theorem begins_walk (a : Option Addr) (ca : Nat) (l : List Op) (keep : Int) (w : World) (hl : Elems ROp 3 w (.slice a l.length ca) l) (wk : (Lit.int .i64 keep).wf = true) :
    Calls Try.prog 3 #[.slice a l.length ca, .int .i64 keep] w fun e w' => e = .returned (.bool true) ∧ Below w.heap.size w w' := by
  have hkeep : keep ≤ 9223372036854775807 := by simpa [Lit.wf, IntKind.min, IntKind.max, IntKind.signed, IntKind.bits] using (by simpa [Lit.wf, IntKind.min, IntKind.max, IntKind.signed, IntKind.bits] using wk : _ ∧ _).2
  have hlm : l.length ≤ 9223372036854775807 := by obtain ⟨_, _, _, h1, h2, _⟩ := hl; unfold maxLen at h2; omega
  clear wk
  have Hl := Lib.hid hl
  clear hl
  go_enter Try.func3, Try.ntmps3
  go_wp2_with fail
  refine (new_calls none _ (St.init w)).mono ?_
  rintro e w1 ⟨p, rfl, s1⟩
  obtain ⟨bk, v, rfl, -, -⟩ := tp_open s1
  have S1 := Lib.hid s1
  clear s1
  go_wp2_with fail
  go_loopw [6, 7, 8] (fun al su i wr => ∃ (k : Nat) (D : List UInt8) (sv : Nat), k ≤ l.length ∧ k ≤ 40 ∧ i = .int .i64 k ∧ al = str D ∧ su = .int .i64 sv ∧ sv ≤ D.length ∧ D.length ≤ 100 * k ∧ St w.heap.size w wr (tp (.pointer (some ⟨bk, 0, none⟩)) (.pointer none) ⟨D, D.length - sv, false⟩ * emp)) (fun _ _ i _ => 40 - (intOf i).toNat)
  case atStart => exact ⟨0, [], 0, Nat.zero_le _, Nat.zero_le _, rfl, rfl, rfl, Nat.le_refl _, Nat.le_refl _, S1.out⟩
  case round =>
    obtain ⟨k, D, sv, hk1, hk2, rfl, rfl, rfl, hsv, hD, s2⟩ := hrel
    clear S1
    by_cases hlt : k < l.length ∧ k < 40
    · obtain ⟨hlt1, hlt2⟩ := hlt
      obtain ⟨b, off, cs, rfl, hcs, ⟨vb, rfl, hb, w1, w2⟩, hcell⟩ := Hl.out.arg k hlt1
      have c0 := hcell _ _ s2 0 (by omega)
      have c2 := hcell _ _ s2 2 (by omega)
      simp at c0 c2
      have HC := Lib.hid hcell
      obtain ⟨ab, cb, rfl, -⟩ := id hb
      generalize l[k] = o at *
      have k1 := and_m1 o.kind
      have S2 := Lib.hid s2
      clear s2
      have Hb := Lib.hid hb
      clear hb hcell w1 w2
      by_cases hlen : 100 < o.b.length
      · have hlen' : (100 : Int) < (o.b.length : Int) := by omega
        go_wp2_with fail
        refine (awake_calls _).mono ?_
        rintro e w2 ⟨rfl, h2⟩
        have HA := Lib.hid (Add.trans S2.out.below h2)
        clear h2
        go_wp2_with fail
        go_ret
        exact ⟨rfl, HA.out⟩
      · have hlen' : (o.b.length : Int) ≤ 100 := by omega
        by_cases hp : o.kind % 2 = 0
        · rw [hp] at k1
          have t1 : tApp none ⟨D, D.length - sv, false⟩ o.b = (0, none, ⟨D ++ o.b, D.length - sv + o.b.length, false⟩) := by simp [tApp, fdead, fspend]; omega
          have hrd : Reads w.heap.size w emp (.slice ab o.b.length cb) o.b := reads_arg emp Hb.out
          have hcv := run_str (P := Try.prog) (w := wr) Try.underlying25 Try.underlying5 Try.underlying9 (Hb.out.st rfl S2.out)
          have T1 := Lib.hid t1
          have Hrd := Lib.hid hrd
          clear t1 hp hcv hrd
          go_wp2_with fail
          with_reducible refine (append0 ⟨D, D.length - sv, false⟩ o.b _ _ _ _ wr Hrd.out (by omega) S2.out).mono ?_
          rw [T1.out]
          rintro e w2 ⟨rfl, s3⟩
          have hcv := run_str (P := Try.prog) (w := w2) Try.underlying25 Try.underlying5 Try.underlying9 (Hb.out.st rfl s3)
          have d0 := HC.out _ _ s3 0 (by omega)
          have d2 := HC.out _ _ s3 2 (by omega)
          simp at d0 d2
          have hsz : ¬ (9223372036854775807 < D.length + o.b.length) := by omega
          have hadd := str_add D o.b
          have S3 := Lib.hid s3
          clear s3
          clear S2 c0 c2 T1
          go_wp2_with fail
          go_roundw
          case rel => exact ⟨k + 1, D ++ o.b, sv, by omega, by omega, by go_num, by first | rfl | simp, rfl, by simp; omega, by simp; omega, by
            have q := S3.out
            rw [show D.length - sv + o.b.length = (D ++ o.b).length - sv by simp; omega] at q
            exact q⟩
          case measure => simp [intOf]; omega
        · obtain hp1 : o.kind % 2 = 1 := by omega
          rw [hp1] at k1
          have t1 : tSync none ⟨D, D.length - sv, false⟩ = (0, ⟨D, 0, false⟩) := by simp [tSync, fdead]
          have T1 := Lib.hid t1
          clear t1 hp hp1
          go_wp2_with fail
          with_reducible refine (sync0 ⟨D, D.length - sv, false⟩ _ wr S2.out).mono ?_
          rw [T1.out]
          rintro e w2 ⟨rfl, s3⟩
          have S3 := Lib.hid s3
          clear s3
          clear S2 c0 c2 T1
          go_wp2_with fail
          go_roundw
          case rel => exact ⟨k + 1, D, D.length, by omega, by omega, by go_num, rfl, rfl, Nat.le_refl _, by omega, by
            have q := S3.out
            rw [show (⟨D, 0, false⟩ : Tp) = ⟨D, D.length - D.length, false⟩ by rw [Nat.sub_self]] at q
            exact q⟩
          case measure => simp [intOf]; omega
    · have hend : l.length ≤ k ∨ k < l.length ∧ 40 ≤ k := by omega
      clear hlt
      have S2 := Lib.hid s2
      clear s2
      rcases hend with hend | ⟨hend, hend2⟩
      · skip
        go_wp2_with fail
        refine (loose_calls _ _ _ wr S2.out).mono ?_
        rintro e w3 ⟨he, s3⟩
        have he : e = .returned (.int .i64 ((D.length - sv : Nat) : Int)) := he
        rw [show ((D.length - sv : Nat) : Int) = (D.length : Int) - sv by omega] at he
        subst he
        have S3 := Lib.hid s3
        clear s3
        clear S2
        go_wp2_with fail
        refine (crash_calls _ keep _ _ w3 hkeep S3.out).mono ?_
        rintro e w4 ⟨rfl, s4⟩
        obtain ⟨m, hm, hm1, hm2⟩ : ∃ m : Nat, (sv : Int) + min (max keep 0) ((D.length : Int) - sv) = (m : Int) ∧ m ≤ D.length ∧ m = D.length - (D.length - sv) + min keep.toNat (D.length - sv) := ⟨D.length - (D.length - sv) + min keep.toNat (D.length - sv), by omega, by omega, rfl⟩
        have s4 : St _ _ _ (tp (.pointer (some ⟨bk, 0, none⟩)) (.pointer none) ⟨D.take (D.length - (D.length - sv) + min keep.toNat (D.length - sv)), 0, false⟩ * emp) := s4
        rw [← hm2] at s4
        clear hm2 S3
        have S4 := Lib.hid s4
        clear s4
        go_wp2_with fail
        refine (bytes_calls _ _ _ w4 S4.out).mono ?_
        rintro e w5 ⟨a5, c5, he, s5⟩
        have he : e = .returned (.tuple #[.slice a5 (D.take m).length c5, .int .i64 0]) := he
        have s5 : St _ _ _ (row 5 1 (.slice a5 (D.take m).length c5) (D.take m).length (bvs (D.take m)) * _) := s5
        have hlen : (D.take m).length = m := by rw [List.length_take]; omega
        rw [hlen] at s5 he
        subst he
        clear hlen
        have gT : ∀ w', Add w5 w' → BS w' (.slice a5 m c5) (D.take m) := fun w' h => s5.bs.below h
        have HADD := Lib.hid s5.below
        have GT := Lib.hid gT
        clear gT
        clear s5 S4
        have hmx := fun w : World => run_max2 (P := Try.prog) w .i64 #[3, 3] 3 keep 0
        have hmn := fun w : World => run_min2 (P := Try.prog) w .i64 #[3, 3] 3 (max keep 0) ((D.length : Int) - sv)
        go_wp2_with fail
        refine wp_region_rs mixed (by kernel_rfl) ?_
        refine RSl.exact (.int .i64 0) rfl rfl rfl rfl (fun _ _ => rfl) ?_
        refine RSl.exact (.bool true) rfl rfl rfl rfl (fun w' ha => by simp [rho, upd, Spec.val, execOp, go_sem]) ?_
        refine RSl.exact (.bool true) rfl rfl rfl rfl (fun _ _ => rfl) ?_
        refine RSl.exact (.slice a5 m c5) rfl rfl rfl rfl (fun _ _ => rfl) ?_
        refine RSl.exact (str (D.take m)) rfl rfl rfl rfl (fun w' ha => exec_convert rfl (run_str Try.underlying25 Try.underlying5 Try.underlying9 (GT.out w' ha))) ?_
        refine RSl.exact (str D) rfl rfl rfl rfl (fun _ _ => rfl) ?_
        refine RSl.exact (.int .i64 m) rfl rfl rfl rfl (fun _ _ => rfl) ?_
        refine RSl.exact (str (D.take m)) rfl rfl rfl rfl (fun w' ha => exec_slice rfl (run_strTo Try.underlying9 w' D .i64 m hm1)) ?_
        refine RSl.exact (.bool true) rfl rfl rfl rfl (fun w' ha => by simp [rho, upd, Spec.val, execOp, go_sem]) ?_
        refine RSl.exact (.bool true) rfl rfl rfl rfl (fun _ _ => rfl) ?_
        refine RSl.exact (.bool true) rfl rfl rfl rfl (fun _ _ => rfl) ?_
        refine RSl.callx (.bool true) _ [] [] _ rfl rfl rfl rfl rfl (fun _ => rfl) (fun w' ha => awake_calls w') ?_
        refine RSl.exact (.bool true) rfl rfl rfl rfl (fun _ _ => rfl) ?_
        refine RSl.exact (.bool true) rfl rfl rfl rfl (fun _ _ => rfl) ?_
        refine RSl.nil fun a' w' ha hd hs hh => ?_
        obtain ⟨tm, df⟩ := a'
        have hd : df = [] := hd
        subst hd
        have h4 : tm.getD 4 undef = .bool true := hh 4 (by simp)
        clear hh
        go_wp2_with fail
        refine bodyPost_ret (results_tmp rfl _ _ _) rfl ?_
        rw [h4]
        exact ⟨rfl, HADD.out.trans (ha.mono HADD.out.size)⟩
      · skip
        go_wp2_with fail
        refine (loose_calls _ _ _ wr S2.out).mono ?_
        rintro e w3 ⟨he, s3⟩
        have he : e = .returned (.int .i64 ((D.length - sv : Nat) : Int)) := he
        rw [show ((D.length - sv : Nat) : Int) = (D.length : Int) - sv by omega] at he
        subst he
        have S3 := Lib.hid s3
        clear s3
        clear S2
        go_wp2_with fail
        refine (crash_calls _ keep _ _ w3 hkeep S3.out).mono ?_
        rintro e w4 ⟨rfl, s4⟩
        obtain ⟨m, hm, hm1, hm2⟩ : ∃ m : Nat, (sv : Int) + min (max keep 0) ((D.length : Int) - sv) = (m : Int) ∧ m ≤ D.length ∧ m = D.length - (D.length - sv) + min keep.toNat (D.length - sv) := ⟨D.length - (D.length - sv) + min keep.toNat (D.length - sv), by omega, by omega, rfl⟩
        have s4 : St _ _ _ (tp (.pointer (some ⟨bk, 0, none⟩)) (.pointer none) ⟨D.take (D.length - (D.length - sv) + min keep.toNat (D.length - sv)), 0, false⟩ * emp) := s4
        rw [← hm2] at s4
        clear hm2 S3
        have S4 := Lib.hid s4
        clear s4
        go_wp2_with fail
        refine (bytes_calls _ _ _ w4 S4.out).mono ?_
        rintro e w5 ⟨a5, c5, he, s5⟩
        have he : e = .returned (.tuple #[.slice a5 (D.take m).length c5, .int .i64 0]) := he
        have s5 : St _ _ _ (row 5 1 (.slice a5 (D.take m).length c5) (D.take m).length (bvs (D.take m)) * _) := s5
        have hlen : (D.take m).length = m := by rw [List.length_take]; omega
        rw [hlen] at s5 he
        subst he
        clear hlen
        have gT : ∀ w', Add w5 w' → BS w' (.slice a5 m c5) (D.take m) := fun w' h => s5.bs.below h
        have HADD := Lib.hid s5.below
        have GT := Lib.hid gT
        clear gT
        clear s5 S4
        have hmx := fun w : World => run_max2 (P := Try.prog) w .i64 #[3, 3] 3 keep 0
        have hmn := fun w : World => run_min2 (P := Try.prog) w .i64 #[3, 3] 3 (max keep 0) ((D.length : Int) - sv)
        go_wp2_with fail
        refine wp_region_rs mixed (by kernel_rfl) ?_
        refine RSl.exact (.int .i64 0) rfl rfl rfl rfl (fun _ _ => rfl) ?_
        refine RSl.exact (.bool true) rfl rfl rfl rfl (fun w' ha => by simp [rho, upd, Spec.val, execOp, go_sem]) ?_
        refine RSl.exact (.bool true) rfl rfl rfl rfl (fun _ _ => rfl) ?_
        refine RSl.exact (.slice a5 m c5) rfl rfl rfl rfl (fun _ _ => rfl) ?_
        refine RSl.exact (str (D.take m)) rfl rfl rfl rfl (fun w' ha => exec_convert rfl (run_str Try.underlying25 Try.underlying5 Try.underlying9 (GT.out w' ha))) ?_
        refine RSl.exact (str D) rfl rfl rfl rfl (fun _ _ => rfl) ?_
        refine RSl.exact (.int .i64 m) rfl rfl rfl rfl (fun _ _ => rfl) ?_
        refine RSl.exact (str (D.take m)) rfl rfl rfl rfl (fun w' ha => exec_slice rfl (run_strTo Try.underlying9 w' D .i64 m hm1)) ?_
        refine RSl.exact (.bool true) rfl rfl rfl rfl (fun w' ha => by simp [rho, upd, Spec.val, execOp, go_sem]) ?_
        refine RSl.exact (.bool true) rfl rfl rfl rfl (fun _ _ => rfl) ?_
        refine RSl.exact (.bool true) rfl rfl rfl rfl (fun _ _ => rfl) ?_
        refine RSl.callx (.bool true) _ [] [] _ rfl rfl rfl rfl rfl (fun _ => rfl) (fun w' ha => awake_calls w') ?_
        refine RSl.exact (.bool true) rfl rfl rfl rfl (fun _ _ => rfl) ?_
        refine RSl.exact (.bool true) rfl rfl rfl rfl (fun _ _ => rfl) ?_
        refine RSl.nil fun a' w' ha hd hs hh => ?_
        obtain ⟨tm, df⟩ := a'
        have hd : df = [] := hd
        subst hd
        have h4 : tm.getD 4 undef = .bool true := hh 4 (by simp)
        clear hh
        go_wp2_with fail
        refine bodyPost_ret (results_tmp rfl _ _ _) rfl ?_
        rw [h4]
        exact ⟨rfl, HADD.out.trans (ha.mono HADD.out.size)⟩
end Go.Proofs.Yteikpbangjpilaa.TapL
