/- The laws of records, walked: RecOne. No condition. -/
import Derived.Test.YtnfkcmcchkcflaaRcL3
import Derived.Test.YtnfkcmcchkcflaaRcD1
set_option linter.unusedSimpArgs false
set_option linter.unusedVariables false
namespace Go.Proofs.Ytnfkcmcchkcflaa.RcL
open Go Go.RowKit Go.Proofs.Ytnfkcmcchkcflaa Go.Proofs.Ytnfkcmcchkcflaa.Sp Go.Proofs.Ytnfkcmcchkcflaa.Reg Go.Proofs.Ytnfkcmcchkcflaa.RcM Go.Proofs.Ytnfkcmcchkcflaa.SlW Go.Proofs.Ytnfkcmcchkcflaa.Rd Go.Proofs.Ytnfkcmcchkcflaa.RcW Go.Proofs.Ytnfkcmcchkcflaa.RcD
/-- What stands by the two records. -/
def OneH (p : Nat) (r q : RcM.Rc) (s1 l1 s2 l2 : Value) : HP :=
  pts p (.cells (rcA r s1 l1) 27 (0, 0)) * (pts (p + 1) (.cells (rcA q s2 l2) 27 (0, 0)) * (row 3 1 s2 q.sids.length (ivs q.sids) * (row 31 3 l2 q.locs.length (q.locs.flatMap lcC) * (row 3 1 s1 r.sids.length (ivs r.sids) * row 31 3 l1 r.locs.length (r.locs.flatMap lcC)))))
section
variable {B : Nat} {w0 : World} {p : Nat} {r q : RcM.Rc} {s1 l1 s2 l2 : Value} {w : World} {X : HP}
theorem OneH.c1 (s : St B w0 w (OneH p r q s1 l1 s2 l2 * X)) (i : Nat) : w.cell? ⟨p, i, none⟩ = (rcA r s1 l1)[i]? := by
  unfold OneH at s
  exact s.left.cell i
theorem OneH.c2 (s : St B w0 w (OneH p r q s1 l1 s2 l2 * X)) (i : Nat) : w.cell? ⟨p + 1, i, none⟩ = (rcA q s2 l2)[i]? := by
  unfold OneH at s
  exact s.left.right.cell i
theorem OneH.i2 (s : St B w0 w (OneH p r q s1 l1 s2 l2 * X)) : IS w s2 q.sids := by
  unfold OneH at s
  exact St.iS s.left.right.right
theorem OneH.k2 (s : St B w0 w (OneH p r q s1 l1 s2 l2 * X)) : LS w l2 q.locs := by
  unfold OneH at s
  exact St.ls s.left.right.right.right
theorem OneH.i1 (s : St B w0 w (OneH p r q s1 l1 s2 l2 * X)) : IS w s1 r.sids := by
  unfold OneH at s
  exact St.iS s.left.right.right.right.right
theorem OneH.k1 (s : St B w0 w (OneH p r q s1 l1 s2 l2 * X)) : LS w l1 r.locs := by
  unfold OneH at s
  have s' := s.left.right.right.right.right.right
  exact St.ls (H := emp) (s'.eq (sep_emp _).symm)
theorem enc1 (s : St B w0 w (OneH p r q s1 l1 s2 l2 * X)) (ok : rOk r = true) : Calls Try.prog 9 #[rcV r s1 l1] w (fun e w' => ∃ g c, e = .returned (.tuple #[.slice (some ⟨g, 0, none⟩) (rBytes r).length c, .bool true]) ∧
    St B w0 w' (OneH p r q s1 l1 s2 l2 * (row 5 1 (.slice (some ⟨g, 0, none⟩) (rBytes r).length c) (rBytes r).length (bvs (rBytes r)) * X))) := by
  refine (encode_ok r s1 l1 w (fun w H s => OneH.i1 (X := X * H) (s.eq (by ac_rfl))) (fun w H s => OneH.k1 (X := X * H) (s.eq (by ac_rfl))) ok s).mono ?_
  rintro e w' ⟨g, c, rfl, s'⟩
  exact ⟨g, c, rfl, s'.eq (sep_left_comm _ _ _)⟩
theorem enc2 (s : St B w0 w (OneH p r q s1 l1 s2 l2 * X)) (ok : rOk q = true) : Calls Try.prog 9 #[rcV q s2 l2] w (fun e w' => ∃ g c, e = .returned (.tuple #[.slice (some ⟨g, 0, none⟩) (rBytes q).length c, .bool true]) ∧
    St B w0 w' (OneH p r q s1 l1 s2 l2 * (row 5 1 (.slice (some ⟨g, 0, none⟩) (rBytes q).length c) (rBytes q).length (bvs (rBytes q)) * X))) := by
  refine (encode_ok q s2 l2 w (fun w H s => OneH.i2 (X := X * H) (s.eq (by ac_rfl))) (fun w H s => OneH.k2 (X := X * H) (s.eq (by ac_rfl))) ok s).mono ?_
  rintro e w' ⟨g, c, rfl, s'⟩
  exact ⟨g, c, rfl, s'.eq (sep_left_comm _ _ _)⟩
end
set_option maxRecDepth 100000 in
set_option maxHeartbeats 16000000 in
theorem one_walk (a0 : Option Addr) (c0 : Nat) (l : List Int) (a1 : Option Addr) (c1 : Nat) (m : List Int) (a2 : Option Addr) (c2 : Nat) (bs : List UInt8) (W : World) (hl : IS W (.slice a0 l.length c0) l) (_y0 : l.length * 8 ≤ 140737488351232)
    (hm : IS W (.slice a1 m.length c1) m) (_y1 : m.length * 8 ≤ 140737488351232) (hb : BS W (.slice a2 bs.length c2) bs) (_y2 : bs.length * 1 ≤ 140737488351232) :
    Calls Try.prog 6 #[.slice a0 l.length c0, .slice a1 m.length c1, .slice a2 bs.length c2] W fun e w' => e = .returned (.bool true) ∧ Below W.heap.size W w' := by
  have hB : ∀ w, Below W.heap.size W w → IS w (.slice a0 l.length c0) l := fun w h => hl.below h
  have hM := Lib.hid fun (w : World) (h : Below W.heap.size W w) => hm.below h
  have HB := Lib.hid hb
  have Q := Lib.hid (rec_calls a0 c0 l hB W (St.init W))
  have qm := Lib.hid fun (w : World) (R : HP) (s : St W.heap.size W w R) => rec_calls a1 c1 m hM.out w s
  have HR := Lib.hid (recL_ok l)
  have HQ := Lib.hid (recL_ok m)
  generalize recL l = r at *
  generalize recL m = q at *
  clear hB hl hm hb _y0 _y1 _y2
  go_enter Try.func6, Try.ntmps6
  go_wp2_with fail
  refine Q.out.mono ?_
  rintro e w1 ⟨sv1, lv1, rfl, s1⟩
  obtain ⟨e1, d1, rfl, -⟩ := s1.rowSlice
  obtain ⟨e2, d2, rfl, -⟩ := s1.right.rowSlice
  unfold rcV
  have S1 := Lib.hid s1
  clear s1 Q
  go_wp2_with fail
  refine (qm.out _ _ S1.out).mono ?_
  rintro e w2 ⟨sv2, lv2, rfl, s2⟩
  obtain ⟨e3, d3, rfl, -⟩ := s2.rowSlice
  obtain ⟨e4, d4, rfl, -⟩ := s2.right.rowSlice
  unfold rcV
  have S2 := Lib.hid s2
  clear s2 qm S1
  have s3 : St W.heap.size W ((w2.alloc (.cells #[.int .i64 r.kind, str r.key, .int .i64 r.n, .int .i64 r.sid, .slice e1 r.sids.length d1, .int .i64 r.colour, .slice e2 r.locs.length d2, .int .i64 r.tab.hot, .int .i64 r.tab.warm, .int .i64 r.tab.gap, .int .i64 r.tab.add, .int .i64 r.tab.top, .int .i64 r.tab.half] 27)).alloc (.cells #[.int .i64 q.kind, str q.key, .int .i64 q.n, .int .i64 q.sid, .slice e3 q.sids.length d3, .int .i64 q.colour, .slice e4 q.locs.length d4, .int .i64 q.tab.hot, .int .i64 q.tab.warm, .int .i64 q.tab.gap, .int .i64 q.tab.add, .int .i64 q.tab.top, .int .i64 q.tab.half] 27)) (OneH w2.heap.size r q (.slice e1 r.sids.length d1) (.slice e2 r.locs.length d2) (.slice e3 q.sids.length d3) (.slice e4 q.locs.length d4) * emp) := by
    have s := (S2.out.alloc (.cells #[.int .i64 r.kind, str r.key, .int .i64 r.n, .int .i64 r.sid, .slice e1 r.sids.length d1, .int .i64 r.colour, .slice e2 r.locs.length d2, .int .i64 r.tab.hot, .int .i64 r.tab.warm, .int .i64 r.tab.gap, .int .i64 r.tab.add, .int .i64 r.tab.top, .int .i64 r.tab.half] 27)).alloc (.cells #[.int .i64 q.kind, str q.key, .int .i64 q.n, .int .i64 q.sid, .slice e3 q.sids.length d3, .int .i64 q.colour, .slice e4 q.locs.length d4, .int .i64 q.tab.hot, .int .i64 q.tab.warm, .int .i64 q.tab.gap, .int .i64 q.tab.add, .int .i64 q.tab.top, .int .i64 q.tab.half] 27)
    rw [show (w2.alloc (.cells #[.int .i64 r.kind, str r.key, .int .i64 r.n, .int .i64 r.sid, .slice e1 r.sids.length d1, .int .i64 r.colour, .slice e2 r.locs.length d2, .int .i64 r.tab.hot, .int .i64 r.tab.warm, .int .i64 r.tab.gap, .int .i64 r.tab.add, .int .i64 r.tab.top, .int .i64 r.tab.half] 27 (0, 0))).heap.size = w2.heap.size + 1 by simp] at s
    unfold OneH rcA
    exact s.eq (by ac_rfl)
  have S3 := Lib.hid s3
  clear s3 S2
  go_wp2_with fail
  generalize w2.heap.size = p at *
  refine (enc1 S3.out HR.out).mono ?_
  rintro e w4 ⟨g1, b1, rfl, s4⟩
  have S4 := Lib.hid s4
  clear s4 S3
  have x0 := OneH.c2 S4.out 0
  have x1 := OneH.c2 S4.out 1
  have x2 := OneH.c2 S4.out 2
  have x3 := OneH.c2 S4.out 3
  have x4 := OneH.c2 S4.out 4
  have x5 := OneH.c2 S4.out 5
  have x6 := OneH.c2 S4.out 6
  have x7 := OneH.c2 S4.out 7
  have x8 := OneH.c2 S4.out 8
  have x9 := OneH.c2 S4.out 9
  have x10 := OneH.c2 S4.out 10
  have x11 := OneH.c2 S4.out 11
  have x12 := OneH.c2 S4.out 12
  unfold rcA at x0 x1 x2 x3 x4 x5 x6 x7 x8 x9 x10 x11 x12
  simp at x0 x1 x2 x3 x4 x5 x6 x7 x8 x9 x10 x11 x12
  go_wp2_with fail
  refine (enc2 S4.out HQ.out).mono ?_
  rintro e w5 ⟨g2, b2, rfl, s5⟩
  have S5 := Lib.hid s5
  clear s5 S4 x0 x1 x2 x3 x4 x5 x6 x7 x8 x9 x10 x11 x12
  by_cases hrq : r = q
  · have HE := Lib.hid (show rBytes r = rBytes q by rw [hrq])
    have HRQ := Lib.hid hrq
    clear hrq
    go_wp2_with fail
    refine wp_region_rx (fun _ w' => St W.heap.size W w' (OneH p r q (.slice e1 r.sids.length d1) (.slice e2 r.locs.length d2) (.slice e3 q.sids.length d3) (.slice e4 q.locs.length d4) * (row 5 1 (.slice (some ⟨g2, 0, none⟩) (rBytes q).length b2) (rBytes q).length (bvs (rBytes q)) * (row 5 1 (.slice (some ⟨g1, 0, none⟩) (rBytes r).length b1) (rBytes r).length (bvs (rBytes r)) * emp)))) [] mixed (by kernel_rfl) (by kernel_rfl) S5.out.drew ?_
    refine RXl.exact (.bool true) rfl rfl rfl rfl rfl (fun _ _ _ _ _ => rfl) ?_
    refine RXl.exact (.bool false) rfl rfl rfl rfl rfl (fun j τ w' hj hJ => by simp [rho, upd, Spec.val, execOp, go_sem]) ?_
    refine RXl.exact (.bool false) rfl rfl rfl rfl rfl (fun _ _ _ _ _ => rfl) ?_
    refine RXl.exact (.bool true) rfl rfl rfl rfl rfl (fun _ _ _ _ _ => rfl) ?_
    refine RXl.exact (.bool false) rfl rfl rfl rfl rfl (fun j τ w' hj hJ => by simp [rho, upd, Spec.val, execOp, go_sem]) ?_
    refine RXl.exact (.bool false) rfl rfl rfl rfl rfl (fun _ _ _ _ _ => rfl) ?_
    refine RXl.exact (.bool false) rfl rfl rfl rfl rfl (fun _ _ _ _ _ => rfl) ?_
    refine RXl.exact (.slice (some ⟨g1, 0, none⟩) (rBytes r).length b1) rfl rfl rfl rfl rfl (fun _ _ _ _ _ => rfl) ?_
    refine RXl.exact (str (rBytes r)) rfl rfl rfl rfl rfl (fun j τ w' hj hJ => by have c := run_str (P := Try.prog) Try.underlying32 Try.underlying5 Try.underlying9 (hJ.right.right.bs); simp [rho, upd, Spec.val, execOp, go_sem, c]) ?_
    refine RXl.exact (.slice (some ⟨g2, 0, none⟩) (rBytes q).length b2) rfl rfl rfl rfl rfl (fun _ _ _ _ _ => rfl) ?_
    refine RXl.exact (str (rBytes q)) rfl rfl rfl rfl rfl (fun j τ w' hj hJ => by have c := run_str (P := Try.prog) Try.underlying32 Try.underlying5 Try.underlying9 (hJ.right.bs); simp [rho, upd, Spec.val, execOp, go_sem, c]) ?_
    refine RXl.exact (.bool true) rfl rfl rfl rfl rfl (fun j τ w' hj hJ => by have e := HE.out; simp [rho, upd, Spec.val, execOp, go_sem, e]) ?_
    refine RXl.exact (.agg #[.int .i64 r.kind, str r.key, .int .i64 r.n, .int .i64 r.sid, .slice e1 r.sids.length d1, .int .i64 r.colour, .slice e2 r.locs.length d2, .int .i64 r.tab.hot, .int .i64 r.tab.warm, .int .i64 r.tab.gap, .int .i64 r.tab.add, .int .i64 r.tab.top, .int .i64 r.tab.half]) rfl rfl rfl rfl rfl (fun j τ w' hj hJ => by have x0 := OneH.c1 hJ 0; have x1 := OneH.c1 hJ 1; have x2 := OneH.c1 hJ 2; have x3 := OneH.c1 hJ 3; have x4 := OneH.c1 hJ 4; have x5 := OneH.c1 hJ 5; have x6 := OneH.c1 hJ 6; have x7 := OneH.c1 hJ 7; have x8 := OneH.c1 hJ 8; have x9 := OneH.c1 hJ 9; have x10 := OneH.c1 hJ 10; have x11 := OneH.c1 hJ 11; have x12 := OneH.c1 hJ 12; unfold rcA at x0 x1 x2 x3 x4 x5 x6 x7 x8 x9 x10 x11 x12; simp at x0 x1 x2 x3 x4 x5 x6 x7 x8 x9 x10 x11 x12; simp [rho, upd, Spec.val, execOp, go_sem, x0, x1, x2, x3, x4, x5, x6, x7, x8, x9, x10, x11, x12]) ?_
    refine RXl.exact (.agg #[.int .i64 q.kind, str q.key, .int .i64 q.n, .int .i64 q.sid, .slice e3 q.sids.length d3, .int .i64 q.colour, .slice e4 q.locs.length d4, .int .i64 q.tab.hot, .int .i64 q.tab.warm, .int .i64 q.tab.gap, .int .i64 q.tab.add, .int .i64 q.tab.top, .int .i64 q.tab.half]) rfl rfl rfl rfl rfl (fun j τ w' hj hJ => by have x0 := OneH.c2 hJ 0; have x1 := OneH.c2 hJ 1; have x2 := OneH.c2 hJ 2; have x3 := OneH.c2 hJ 3; have x4 := OneH.c2 hJ 4; have x5 := OneH.c2 hJ 5; have x6 := OneH.c2 hJ 6; have x7 := OneH.c2 hJ 7; have x8 := OneH.c2 hJ 8; have x9 := OneH.c2 hJ 9; have x10 := OneH.c2 hJ 10; have x11 := OneH.c2 hJ 11; have x12 := OneH.c2 hJ 12; unfold rcA at x0 x1 x2 x3 x4 x5 x6 x7 x8 x9 x10 x11 x12; simp at x0 x1 x2 x3 x4 x5 x6 x7 x8 x9 x10 x11 x12; simp [rho, upd, Spec.val, execOp, go_sem, x0, x1, x2, x3, x4, x5, x6, x7, x8, x9, x10, x11, x12]) ?_
    refine RXl.callr (.bool true) _ [.agg #[.int .i64 r.kind, str r.key, .int .i64 r.n, .int .i64 r.sid, .slice e1 r.sids.length d1, .int .i64 r.colour, .slice e2 r.locs.length d2, .int .i64 r.tab.hot, .int .i64 r.tab.warm, .int .i64 r.tab.gap, .int .i64 r.tab.add, .int .i64 r.tab.top, .int .i64 r.tab.half], .agg #[.int .i64 q.kind, str q.key, .int .i64 q.n, .int .i64 q.sid, .slice e3 q.sids.length d3, .int .i64 q.colour, .slice e4 q.locs.length d4, .int .i64 q.tab.hot, .int .i64 q.tab.warm, .int .i64 q.tab.gap, .int .i64 q.tab.add, .int .i64 q.tab.top, .int .i64 q.tab.half]] [.tmp 43, .tmp 44] _ rfl rfl rfl rfl rfl rfl (fun _ => rfl) (fun j τ w' hj hJ => (samerec_calls r q _ _ _ _ w' (OneH.i1 hJ) (OneH.i2 hJ) (OneH.k1 hJ) (OneH.k2 hJ)).mono fun _ _ ⟨h1, h2⟩ => ⟨h1.trans (by rw [decide_eq_true HRQ.out]), hJ.keep h2⟩) ?_
    refine RXl.exact (.bool false) rfl rfl rfl rfl rfl (fun j τ w' hj hJ => by simp [rho, upd, Spec.val, execOp, go_sem]) ?_
    refine RXl.exact (.bool false) rfl rfl rfl rfl rfl (fun _ _ _ _ _ => rfl) ?_
    refine RXl.nilx _ (Agr.upd _ _ (Agr.upd _ _ (Agr.upd _ _ (Agr.upd _ _ (Agr.upd _ _ (Agr.upd _ _ (Agr.upd _ _ (Agr.upd _ _ (Agr.upd _ _ (Agr.upd _ _ (Agr.upd _ _ (Agr.upd _ _ (Agr.upd _ _ (Agr.upd _ _ (Agr.upd _ _ (Agr.upd _ _ (Agr.upd _ _ (Agr.base _)))))))))))))))))) fun w8 hJ => ?_
    obtain ⟨_, hJ⟩ := hJ
    simp only [Act.put, List.setIfInBounds_toArray, List.set_cons_succ, List.set_cons_zero]
    have S8 := Lib.hid (show St W.heap.size W w8 (OneH p r q (.slice e1 r.sids.length d1) (.slice e2 r.locs.length d2) (.slice e3 q.sids.length d3) (.slice e4 q.locs.length d4) * (row 5 1 (.slice (some ⟨g2, 0, none⟩) (rBytes q).length b2) (rBytes q).length (bvs (rBytes q)) * (row 5 1 (.slice (some ⟨g1, 0, none⟩) (rBytes r).length b1) (rBytes r).length (bvs (rBytes r)) * emp))) from hJ)
    clear hJ S5 HE HRQ
    go_wp2_with fail
    refine (decode_calls a2 c2 bs _ (reads_arg _ HB.out) S8.out).mono ?_
    rintro e w9 ⟨sv, lv, rfl, s9⟩
    obtain ⟨e5, d5, rfl, -⟩ := s9.rowSlice
    obtain ⟨e6, d6, rfl, -⟩ := s9.right.rowSlice
    have S9 := Lib.hid s9
    clear s9 S8
    cases ho : rOf bs with
    | none =>
      rw [ho] at S9
      simp only [Option.isSome_none]
      generalize (none : Option RcM.Rc).getD Rc.zero = v at *
      unfold rcV
      go_wp2_with fail
      refine (awake_calls _).mono ?_
      rintro e wz ⟨rfl, az⟩
      have AZ := Lib.hid az
      clear az
      go_wp2_with fail
      go_ret
      exact ⟨rfl, ((S9.out.alloc _).keep AZ.out).below⟩
    | some v =>
      rw [ho] at S9
      simp only [Option.isSome_some, Option.getD_some] at *
      obtain ⟨hv1, hv2⟩ := rOf_some ho
      unfold rcV
      have HV := Lib.hid hv2
      have st := S9.out.alloc (.cells #[.int .i64 v.kind, str v.key, .int .i64 v.n, .int .i64 v.sid, .slice e5 v.sids.length d5, .int .i64 v.colour, .slice e6 v.locs.length d6, .int .i64 v.tab.hot, .int .i64 v.tab.warm, .int .i64 v.tab.gap, .int .i64 v.tab.add, .int .i64 v.tab.top, .int .i64 v.tab.half] 27)
      have qe := encode_ok v (.slice e5 v.sids.length d5) (.slice e6 v.locs.length d6) _ (fun w H s => St.iS s.right.right) (fun w H s => St.ls s.right.right.right) hv1 st
      unfold rcV at qe
      have QE := Lib.hid qe
      clear qe st hv1 hv2 ho
      go_wp2_with fail
      refine QE.out.mono ?_
      rintro e wy ⟨gy, cy, rfl, sy⟩
      have SY := Lib.hid sy
      have hc1 := run_str (P := Try.prog) Try.underlying32 Try.underlying5 Try.underlying9 (St.bs sy)
      have hc2 := run_str (P := Try.prog) Try.underlying32 Try.underlying5 Try.underlying9 (HB.out.st rfl sy)
      rw [HV.out] at hc1 ⊢
      clear sy QE S9
      go_wp2_with fail
      refine (awake_calls _).mono ?_
      rintro e wz ⟨rfl, az⟩
      have AZ := Lib.hid az
      clear az
      go_wp2_with fail
      go_ret
      exact ⟨rfl, (SY.out.keep AZ.out).below⟩
  · have HE := Lib.hid (show ¬ rBytes r = rBytes q from fun h => hrq (rBytes_inj HR.out HQ.out h))
    have HRQ := Lib.hid hrq
    clear hrq
    go_wp2_with fail
    refine wp_region_rx (fun _ w' => St W.heap.size W w' (OneH p r q (.slice e1 r.sids.length d1) (.slice e2 r.locs.length d2) (.slice e3 q.sids.length d3) (.slice e4 q.locs.length d4) * (row 5 1 (.slice (some ⟨g2, 0, none⟩) (rBytes q).length b2) (rBytes q).length (bvs (rBytes q)) * (row 5 1 (.slice (some ⟨g1, 0, none⟩) (rBytes r).length b1) (rBytes r).length (bvs (rBytes r)) * emp)))) [] mixed (by kernel_rfl) (by kernel_rfl) S5.out.drew ?_
    refine RXl.exact (.bool true) rfl rfl rfl rfl rfl (fun _ _ _ _ _ => rfl) ?_
    refine RXl.exact (.bool false) rfl rfl rfl rfl rfl (fun j τ w' hj hJ => by simp [rho, upd, Spec.val, execOp, go_sem]) ?_
    refine RXl.exact (.bool false) rfl rfl rfl rfl rfl (fun _ _ _ _ _ => rfl) ?_
    refine RXl.exact (.bool true) rfl rfl rfl rfl rfl (fun _ _ _ _ _ => rfl) ?_
    refine RXl.exact (.bool false) rfl rfl rfl rfl rfl (fun j τ w' hj hJ => by simp [rho, upd, Spec.val, execOp, go_sem]) ?_
    refine RXl.exact (.bool false) rfl rfl rfl rfl rfl (fun _ _ _ _ _ => rfl) ?_
    refine RXl.exact (.bool false) rfl rfl rfl rfl rfl (fun _ _ _ _ _ => rfl) ?_
    refine RXl.exact (.slice (some ⟨g1, 0, none⟩) (rBytes r).length b1) rfl rfl rfl rfl rfl (fun _ _ _ _ _ => rfl) ?_
    refine RXl.exact (str (rBytes r)) rfl rfl rfl rfl rfl (fun j τ w' hj hJ => by have c := run_str (P := Try.prog) Try.underlying32 Try.underlying5 Try.underlying9 (hJ.right.right.bs); simp [rho, upd, Spec.val, execOp, go_sem, c]) ?_
    refine RXl.exact (.slice (some ⟨g2, 0, none⟩) (rBytes q).length b2) rfl rfl rfl rfl rfl (fun _ _ _ _ _ => rfl) ?_
    refine RXl.exact (str (rBytes q)) rfl rfl rfl rfl rfl (fun j τ w' hj hJ => by have c := run_str (P := Try.prog) Try.underlying32 Try.underlying5 Try.underlying9 (hJ.right.bs); simp [rho, upd, Spec.val, execOp, go_sem, c]) ?_
    refine RXl.exact (.bool false) rfl rfl rfl rfl rfl (fun j τ w' hj hJ => by have e := HE.out; simp [rho, upd, Spec.val, execOp, go_sem, e]) ?_
    refine RXl.exact (.agg #[.int .i64 r.kind, str r.key, .int .i64 r.n, .int .i64 r.sid, .slice e1 r.sids.length d1, .int .i64 r.colour, .slice e2 r.locs.length d2, .int .i64 r.tab.hot, .int .i64 r.tab.warm, .int .i64 r.tab.gap, .int .i64 r.tab.add, .int .i64 r.tab.top, .int .i64 r.tab.half]) rfl rfl rfl rfl rfl (fun j τ w' hj hJ => by have x0 := OneH.c1 hJ 0; have x1 := OneH.c1 hJ 1; have x2 := OneH.c1 hJ 2; have x3 := OneH.c1 hJ 3; have x4 := OneH.c1 hJ 4; have x5 := OneH.c1 hJ 5; have x6 := OneH.c1 hJ 6; have x7 := OneH.c1 hJ 7; have x8 := OneH.c1 hJ 8; have x9 := OneH.c1 hJ 9; have x10 := OneH.c1 hJ 10; have x11 := OneH.c1 hJ 11; have x12 := OneH.c1 hJ 12; unfold rcA at x0 x1 x2 x3 x4 x5 x6 x7 x8 x9 x10 x11 x12; simp at x0 x1 x2 x3 x4 x5 x6 x7 x8 x9 x10 x11 x12; simp [rho, upd, Spec.val, execOp, go_sem, x0, x1, x2, x3, x4, x5, x6, x7, x8, x9, x10, x11, x12]) ?_
    refine RXl.exact (.agg #[.int .i64 q.kind, str q.key, .int .i64 q.n, .int .i64 q.sid, .slice e3 q.sids.length d3, .int .i64 q.colour, .slice e4 q.locs.length d4, .int .i64 q.tab.hot, .int .i64 q.tab.warm, .int .i64 q.tab.gap, .int .i64 q.tab.add, .int .i64 q.tab.top, .int .i64 q.tab.half]) rfl rfl rfl rfl rfl (fun j τ w' hj hJ => by have x0 := OneH.c2 hJ 0; have x1 := OneH.c2 hJ 1; have x2 := OneH.c2 hJ 2; have x3 := OneH.c2 hJ 3; have x4 := OneH.c2 hJ 4; have x5 := OneH.c2 hJ 5; have x6 := OneH.c2 hJ 6; have x7 := OneH.c2 hJ 7; have x8 := OneH.c2 hJ 8; have x9 := OneH.c2 hJ 9; have x10 := OneH.c2 hJ 10; have x11 := OneH.c2 hJ 11; have x12 := OneH.c2 hJ 12; unfold rcA at x0 x1 x2 x3 x4 x5 x6 x7 x8 x9 x10 x11 x12; simp at x0 x1 x2 x3 x4 x5 x6 x7 x8 x9 x10 x11 x12; simp [rho, upd, Spec.val, execOp, go_sem, x0, x1, x2, x3, x4, x5, x6, x7, x8, x9, x10, x11, x12]) ?_
    refine RXl.callr (.bool false) _ [.agg #[.int .i64 r.kind, str r.key, .int .i64 r.n, .int .i64 r.sid, .slice e1 r.sids.length d1, .int .i64 r.colour, .slice e2 r.locs.length d2, .int .i64 r.tab.hot, .int .i64 r.tab.warm, .int .i64 r.tab.gap, .int .i64 r.tab.add, .int .i64 r.tab.top, .int .i64 r.tab.half], .agg #[.int .i64 q.kind, str q.key, .int .i64 q.n, .int .i64 q.sid, .slice e3 q.sids.length d3, .int .i64 q.colour, .slice e4 q.locs.length d4, .int .i64 q.tab.hot, .int .i64 q.tab.warm, .int .i64 q.tab.gap, .int .i64 q.tab.add, .int .i64 q.tab.top, .int .i64 q.tab.half]] [.tmp 43, .tmp 44] _ rfl rfl rfl rfl rfl rfl (fun _ => rfl) (fun j τ w' hj hJ => (samerec_calls r q _ _ _ _ w' (OneH.i1 hJ) (OneH.i2 hJ) (OneH.k1 hJ) (OneH.k2 hJ)).mono fun _ _ ⟨h1, h2⟩ => ⟨h1.trans (by rw [decide_eq_false HRQ.out]), hJ.keep h2⟩) ?_
    refine RXl.exact (.bool false) rfl rfl rfl rfl rfl (fun j τ w' hj hJ => by simp [rho, upd, Spec.val, execOp, go_sem]) ?_
    refine RXl.exact (.bool false) rfl rfl rfl rfl rfl (fun _ _ _ _ _ => rfl) ?_
    refine RXl.nilx _ (Agr.upd _ _ (Agr.upd _ _ (Agr.upd _ _ (Agr.upd _ _ (Agr.upd _ _ (Agr.upd _ _ (Agr.upd _ _ (Agr.upd _ _ (Agr.upd _ _ (Agr.upd _ _ (Agr.upd _ _ (Agr.upd _ _ (Agr.upd _ _ (Agr.upd _ _ (Agr.upd _ _ (Agr.upd _ _ (Agr.upd _ _ (Agr.base _)))))))))))))))))) fun w8 hJ => ?_
    obtain ⟨_, hJ⟩ := hJ
    simp only [Act.put, List.setIfInBounds_toArray, List.set_cons_succ, List.set_cons_zero]
    have S8 := Lib.hid (show St W.heap.size W w8 (OneH p r q (.slice e1 r.sids.length d1) (.slice e2 r.locs.length d2) (.slice e3 q.sids.length d3) (.slice e4 q.locs.length d4) * (row 5 1 (.slice (some ⟨g2, 0, none⟩) (rBytes q).length b2) (rBytes q).length (bvs (rBytes q)) * (row 5 1 (.slice (some ⟨g1, 0, none⟩) (rBytes r).length b1) (rBytes r).length (bvs (rBytes r)) * emp))) from hJ)
    clear hJ S5 HE HRQ
    go_wp2_with fail
    refine (decode_calls a2 c2 bs _ (reads_arg _ HB.out) S8.out).mono ?_
    rintro e w9 ⟨sv, lv, rfl, s9⟩
    obtain ⟨e5, d5, rfl, -⟩ := s9.rowSlice
    obtain ⟨e6, d6, rfl, -⟩ := s9.right.rowSlice
    have S9 := Lib.hid s9
    clear s9 S8
    cases ho : rOf bs with
    | none =>
      rw [ho] at S9
      simp only [Option.isSome_none]
      generalize (none : Option RcM.Rc).getD Rc.zero = v at *
      unfold rcV
      go_wp2_with fail
      refine (awake_calls _).mono ?_
      rintro e wz ⟨rfl, az⟩
      have AZ := Lib.hid az
      clear az
      go_wp2_with fail
      go_ret
      exact ⟨rfl, ((S9.out.alloc _).keep AZ.out).below⟩
    | some v =>
      rw [ho] at S9
      simp only [Option.isSome_some, Option.getD_some] at *
      obtain ⟨hv1, hv2⟩ := rOf_some ho
      unfold rcV
      have HV := Lib.hid hv2
      have st := S9.out.alloc (.cells #[.int .i64 v.kind, str v.key, .int .i64 v.n, .int .i64 v.sid, .slice e5 v.sids.length d5, .int .i64 v.colour, .slice e6 v.locs.length d6, .int .i64 v.tab.hot, .int .i64 v.tab.warm, .int .i64 v.tab.gap, .int .i64 v.tab.add, .int .i64 v.tab.top, .int .i64 v.tab.half] 27)
      have qe := encode_ok v (.slice e5 v.sids.length d5) (.slice e6 v.locs.length d6) _ (fun w H s => St.iS s.right.right) (fun w H s => St.ls s.right.right.right) hv1 st
      unfold rcV at qe
      have QE := Lib.hid qe
      clear qe st hv1 hv2 ho
      go_wp2_with fail
      refine QE.out.mono ?_
      rintro e wy ⟨gy, cy, rfl, sy⟩
      have SY := Lib.hid sy
      have hc1 := run_str (P := Try.prog) Try.underlying32 Try.underlying5 Try.underlying9 (St.bs sy)
      have hc2 := run_str (P := Try.prog) Try.underlying32 Try.underlying5 Try.underlying9 (HB.out.st rfl sy)
      rw [HV.out] at hc1 ⊢
      clear sy QE S9
      go_wp2_with fail
      refine (awake_calls _).mono ?_
      rintro e wz ⟨rfl, az⟩
      have AZ := Lib.hid az
      clear az
      go_wp2_with fail
      go_ret
      exact ⟨rfl, (SY.out.keep AZ.out).below⟩
end Go.Proofs.Ytnfkcmcchkcflaa.RcL
