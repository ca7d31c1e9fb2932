/- The laws of records, walked: what the document fixes; RecBounds. No condition. -/
import Derived.Test.YtnfkcmcchkcflaaRcL2
set_option linter.unusedSimpArgs false
set_option linter.unusedVariables false
namespace Go.Proofs.Ytnfkcmcchkcflaa.RcL
open Go Go.RowKit Go.Proofs.Ytnfkcmcchkcflaa Go.Proofs.Ytnfkcmcchkcflaa.Sp Go.Proofs.Ytnfkcmcchkcflaa.Reg Go.Proofs.Ytnfkcmcchkcflaa.RcM Go.Proofs.Ytnfkcmcchkcflaa.SlW Go.Proofs.Ytnfkcmcchkcflaa.Rd Go.Proofs.Ytnfkcmcchkcflaa.RcW
theorem is_nil (w : World) : IS w (.slice none 0 0) [] := ⟨none, 0, rfl, by simp, by simp, fun _ => rfl, .nil _ _⟩
theorem ls_nil (w : World) : LS w (.slice none 0 0) [] := ⟨none, 0, rfl, by simp, by simp, fun _ => rfl, .nil _ _⟩
theorem LS.rd {w : World} {a : Option Addr} {n c : Nat} {ls : List Lc} (h : LS w (.slice a n c) ls) : Rd w a (ls.flatMap lcC) := by
  obtain ⟨_, _, e, -, -, -, h⟩ := h
  cases e
  exact h
theorem LS.nn {w : World} {a : Option Addr} {n c : Nat} {ls : List Lc} (h : LS w (.slice a n c) ls) : a = none → c = 0 := by
  obtain ⟨_, _, e, -, -, h, -⟩ := h
  cases e
  exact h
theorem flat3 (ls : List Lc) : (ls.flatMap lcC).length = ls.length * 3 := by
  induction ls with
  | nil => rfl
  | cons a l ih => simp [lcC, ih, Nat.add_mul]
theorem ok_sids {r : RcM.Rc} (h : rOk r = true) : r.sids.length ≤ 3 := by
  have h := ((good_iff r).1 h).ns
  split at h <;> omega
theorem ok_locs {r : RcM.Rc} (h : rOk r = true) : r.locs.length ≤ 6 := by
  rw [((good_iff r).1 h).nl]
  exact cnt6 (ok_sids h) (shp_l2 _)
theorem ok_key {r : RcM.Rc} (h : rOk r = true) : r.key.length ≤ 16 := by
  have g := (good_iff r).1 h
  cases e : (shp r.kind.toNat).key
  · rw [g.key0 e]; simp
  · have h := g.key e; simp only [keyOk, Bool.and_eq_true, decide_eq_true_eq] at h; omega
def rk : RcM.Rc := { Rc.zero with kind := 2, key := [107] }
theorem rk_ok : rOk rk = true := by decide
theorem rk_bytes : rBytes rk = [2, 1, 107] := by decide
theorem rk_of : rOf [2, 1, 107] = some rk := by rw [← rk_bytes]; exact rOf_bytes rk_ok
theorem no_of : rOf [] = none := by decide
set_option maxRecDepth 100000 in
set_option maxHeartbeats 4000000 in
theorem awake_calls (w : World) : Calls Try.prog 10 #[] w (RetA w (.bool true)) := by
  have q := encode_ok (R := emp) rk (.slice none 0 0) (.slice none 0 0) w (fun w _ _ => is_nil w) (fun w _ _ => ls_nil w) rk_ok (St.init w)
  rw [rk_bytes] at q
  unfold rcV at q
  have Q := Lib.hid q
  clear q
  go_enter Try.func10, Try.ntmps10
  go_wp2_with fail
  refine Q.out.mono ?_
  rintro e w1 ⟨g1, c1, rfl, s1⟩
  have s2 := s1.alloc (.cells #[.int .u8 2, .int .u8 1, .int .u8 107] 5)
  have q := decode_calls (some ⟨w1.heap.size, 0, none⟩) 3 [2, 1, 107] _ (reads_right _ (reads_lit (t := 5) (f := (0, 0)) (g := w1.heap.size) (C := #[.int .u8 2, .int .u8 1, .int .u8 107]) rfl rfl (by unfold maxLen; decide))) s2
  rw [rk_of] at q
  have Q2 := Lib.hid q
  clear q s1 s2 Q
  go_wp2_with fail
  refine Q2.out.mono ?_
  rintro e w2 ⟨sv, lw, rfl, s2⟩
  obtain ⟨a3, c3, rfl, -⟩ := s2.rowSlice
  obtain ⟨a4, c4, rfl, -⟩ := s2.right.rowSlice
  rw [show rcV ((some rk).getD Rc.zero) (.slice a3 ((some rk).getD Rc.zero).sids.length c3) (.slice a4 ((some rk).getD Rc.zero).locs.length c4) = .agg #[.int .i64 2, str [107], .int .i64 0, .int .i64 0, .slice a3 0 c3, .int .i64 0, .slice a4 0 c4, .int .i64 0, .int .i64 0, .int .i64 0, .int .i64 0, .int .i64 0, .int .i64 0] from rfl]
  have s3 := s2.alloc (.cells #[.int .i64 2, str [107], .int .i64 0, .int .i64 0, .slice a3 0 c3, .int .i64 0, .slice a4 0 c4, .int .i64 0, .int .i64 0, .int .i64 0, .int .i64 0, .int .i64 0, .int .i64 0] 27)
  have q := decode_calls none 0 [] _ (fun w _ _ => BS.nil w) s3
  rw [no_of] at q
  have Q3 := Lib.hid q
  clear q s2 Q2
  go_wp2_with fail
  refine Q3.out.mono ?_
  rintro e w3 ⟨sv5, lw5, rfl, s5⟩
  obtain ⟨a5, c5, rfl, -⟩ := s5.rowSlice
  obtain ⟨a6, c6, rfl, -⟩ := s5.right.rowSlice
  rw [show rcV ((none : Option RcM.Rc).getD Rc.zero) (.slice a5 ((none : Option RcM.Rc).getD Rc.zero).sids.length c5) (.slice a6 ((none : Option RcM.Rc).getD Rc.zero).locs.length c6) = .agg #[.int .i64 0, str [], .int .i64 0, .int .i64 0, .slice a5 0 c5, .int .i64 0, .slice a6 0 c6, .int .i64 0, .int .i64 0, .int .i64 0, .int .i64 0, .int .i64 0, .int .i64 0] from rfl]
  have s6 := s5.alloc (.cells #[.int .i64 0, str [], .int .i64 0, .int .i64 0, .slice a5 0 c5, .int .i64 0, .slice a6 0 c6, .int .i64 0, .int .i64 0, .int .i64 0, .int .i64 0, .int .i64 0, .int .i64 0] 27)
  have ck := s6.right.right.right.cell 1
  simp at ck
  have s7 := s6.right.right.right.right.right.right.right
  have hcv := run_str (P := Try.prog) Try.underlying32 Try.underlying5 Try.underlying9 (St.bs s7)
  rw [show str [2, 1, 107] = .string ⟨#[2, 1, 107]⟩ from rfl, show ([2, 1, 107] : List UInt8).length = 3 from rfl] at hcv
  rw [show str [107] = .string ⟨#[107]⟩ from rfl] at ck
  have A6 := Lib.hid s6.below
  clear s3 s5 s6 Q3
  clear s7
  go_wp2_with fail
  go_ret
  exact ⟨rfl, A6.out⟩
set_option maxRecDepth 100000 in
set_option maxHeartbeats 16000000 in
theorem bounds_walk (a : Option Addr) (ca : Nat) (l : List Int) (field by' : Int) (W : World) (hl : IS W (.slice a l.length ca) l) (_y : l.length * 8 ≤ 140737488351232) (_w1 : (Lit.int .i64 field).wf = true) (_w2 : (Lit.int .i64 by').wf = true) :
    Calls Try.prog 3 #[.slice a l.length ca, .int .i64 field, .int .i64 by'] W fun e w' => e = .returned (.bool true) ∧ Below W.heap.size W w' := by
  have hB : ∀ w, Below W.heap.size W w → IS w (.slice a l.length ca) l := fun w h => hl.below h
  have Q := Lib.hid (rec_calls a ca l hB W (St.init W))
  have m1 := and_m8 by'
  have m2 := and_m3 field
  have hok := recL_ok l
  have hkl : (recL l).key.length ≤ 16 := ok_key hok
  have hsl : (recL l).sids.length ≤ 3 := ok_sids hok
  have hll : (recL l).locs.length ≤ 6 := ok_locs hok
  have hbad := fun (f : Nat) => badF_no hok f (b := by' % 256 + 1) (by omega)
  generalize recL l = r at *
  have f0 : 0 ≤ field % 8 := by omega
  have f8 : field % 8 < 8 := by omega
  have b0 : 0 ≤ by' % 256 := by omega
  have b9 : by' % 256 < 256 := by omega
  generalize field % 8 = f at *
  generalize by' % 256 = bb at *
  have Hok := Lib.hid hok
  have Hbad := Lib.hid hbad
  clear hok hbad
  clear hB hl _y _w1 _w2
  go_enter Try.func3, Try.ntmps3
  go_wp2_with fail
  refine Q.out.mono ?_
  rintro e w1 ⟨sv, lw, rfl, s1⟩
  obtain ⟨a3, c3, rfl, -⟩ := s1.rowSlice
  obtain ⟨a4, c4, rfl, -⟩ := s1.right.rowSlice
  have s2 := s1.alloc (.cells #[.int .i64 r.kind, str r.key, .int .i64 r.n, .int .i64 r.sid, .slice a3 r.sids.length c3, .int .i64 r.colour, .slice a4 r.locs.length c4, .int .i64 r.tab.hot, .int .i64 r.tab.warm, .int .i64 r.tab.gap, .int .i64 r.tab.add, .int .i64 r.tab.top, .int .i64 r.tab.half] 27)
  have q := ok_calls r (.slice a3 r.sids.length c3) (.slice a4 r.locs.length c4) _ (St.iS s2.right) (St.ls s2.right.right) (by unfold maxLen; omega) (by omega)
  rw [Hok.out] at q
  unfold rcV at q
  have Q2 := Lib.hid q
  have S2 := Lib.hid s2
  clear q s1 s2 Q
  unfold rcV
  go_wp2_with fail
  refine Q2.out.mono ?_
  rintro e w3 ⟨rfl, a5⟩
  have S3 := Lib.hid (S2.out.keep a5)
  clear a5 S2 Q2
  generalize w1.heap.size = pr at *
  go_upto_block 0 with fail
  go_cut [] from 8 to 68 (fun wx => ∃ (q : RcM.Rc) (sv lw : Value), rOk q = false ∧ q.key.length ≤ 100 ∧ q.sids.length ≤ 10 ∧ St W.heap.size W wx (pts pr (.cells (rcA q sv lw) 27 (0, 0)) * (row 3 1 sv q.sids.length (ivs q.sids) * (row 31 3 lw q.locs.length (q.locs.flatMap lcC) * emp))))
  case first =>
    obtain rfl | rfl | rfl | rfl | rfl | rfl | rfl | rfl : f = 0 ∨ f = 1 ∨ f = 2 ∨ f = 3 ∨ f = 4 ∨ f = 5 ∨ f = 6 ∨ f = 7 := by omega
    · have c0 := S3.out.cell 0
      have g0 := S3.out.free 0
      simp at c0
      go_wp2_with fail
      go_meet
      exact ⟨badF r 0 (bb + 1), _, _, Hbad.out 0, by show r.key.length ≤ 100; omega, by show r.sids.length ≤ 10; omega, S3.out.set 0 _⟩
    · have c0 := S3.out.cell 5
      have g0 := S3.out.free 5
      simp at c0
      go_wp2_with fail
      go_meet
      exact ⟨badF r 1 (bb + 1), _, _, Hbad.out 1, by show r.key.length ≤ 100; omega, by show r.sids.length ≤ 10; omega, S3.out.set 5 _⟩
    · have c0 := S3.out.cell 1
      have g0 := S3.out.free 1
      simp at c0
      go_wp2_with fail
      go_meet
      exact ⟨badF r 2 (bb + 1), _, _, Hbad.out 2, by show (r.key ++ [127]).length ≤ 100; rw [List.length_append, List.length_singleton]; omega, by show r.sids.length ≤ 10; omega, S3.out.set 1 _⟩
    · have c0 := S3.out.cell 2
      have g0 := S3.out.free 2
      simp at c0
      go_wp2_with fail
      go_meet
      exact ⟨badF r 3 (bb + 1), _, _, Hbad.out 3, by show r.key.length ≤ 100; omega, by show r.sids.length ≤ 10; omega, S3.out.set 2 _⟩
    · have c0 := S3.out.cell 3
      have g0 := S3.out.free 3
      simp at c0
      go_wp2_with fail
      go_meet
      exact ⟨badF r 4 (bb + 1), _, _, Hbad.out 4, by show r.key.length ≤ 100; omega, by show r.sids.length ≤ 10; omega, S3.out.set 3 _⟩
    · have s4 := S3.out.alloc (.cells #[] 3)
      have s5 := s4.rowMk (n := 0) (cap := 0) (size := 1) (xs := []) (by decide) (by decide) (by simp) rfl
      have c0 := s5.right.cell 4
      simp at c0
      have hrd : Rd (w3.alloc (.cells #[] 3)) a3 (ivs r.sids) := (St.iS (s5.right.right)).rd.2.2.2.2
      have hnn : a3 = none → c3 = 0 := (St.iS (s5.right.right)).rd.2.2.2.1
      have S5 := Lib.hid s5
      have HRD := Lib.hid hrd
      have HNN := Lib.hid hnn
      clear s4 s5 hrd hnn
      go_wp2_with (first
        | (((have q := S5); clear q); at_builtin; go_must (refine wpl_append rfl _ _ rfl tI S5.out a3 r.sids.length c3 (ivs r.sids) rfl rfl HRD.out HNN.out (by simp [ivs]) (by intro u hu; simp [ivs] at hu; obtain ⟨z, -, rfl⟩ := hu; rfl) (by unfold maxLen; omega) (by omega) ?_); intro v6 w6 s6 _; rw [Nat.zero_add, List.nil_append] at s6; obtain ⟨a8, c8, rfl, -⟩ := s6.rowSlice; have S6 := Lib.hid (s6.alloc (.cells #[.int .i64 1] 3)); clear s6 S5 HRD HNN c0)
        | (((have q := S6); clear q); at_builtin; go_must (refine wpl_append rfl _ _ rfl tI S6.out.right (some ⟨w6.heap.size, 0, none⟩) 1 1 ([.int .i64 1]) rfl rfl (S6.out.rd 0 1) (fun e => by cases e) rfl (by intro u hu; simp at hu; subst hu; rfl) (by unfold maxLen; omega) (by omega) ?_); intro v7 w7 s7 _; obtain ⟨a9, c9, rfl, -⟩ := s7.rowSlice; have c1 := s7.right.cell 4; have g1 := s7.right.free 4; simp at c1; have S7 := Lib.hid s7; clear s7 S6))
      go_meet
      have s8 : St W.heap.size W _ (pts pr (.cells (rcA (badF r 5 (bb + 1)) (.slice a9 (r.sids.length + 1) c9) (.slice a4 r.locs.length c4)) 27 (0, 0)) * (row 3 1 (.slice a9 (r.sids.length + 1) c9) (r.sids.length + 1) (ivs r.sids ++ [.int .i64 1]) * (row 3 1 (.slice a3 r.sids.length c3) r.sids.length (ivs r.sids) * (row 31 3 (.slice a4 r.locs.length c4) r.locs.length (r.locs.flatMap lcC) * emp)))) := (S7.out.eq (sep_left_comm _ _ _)).set 4 (.slice a9 (r.sids.length + 1) c9)
      refine ⟨badF r 5 (bb + 1), (.slice a9 (r.sids.length + 1) c9), (.slice a4 r.locs.length c4), Hbad.out 5, by show r.key.length ≤ 100; omega, by show (r.sids ++ [1]).length ≤ 10; rw [List.length_append, List.length_singleton]; omega, ?_⟩
      have e1 : ivs (r.sids ++ [1]) = ivs r.sids ++ [.int .i64 1] := by simp [ivs, lcC]
      have e2 : (r.sids ++ [(1 : Int)]).length = r.sids.length + 1 := by simp
      show St W.heap.size W _ (pts pr (.cells (rcA (badF r 5 (bb + 1)) (.slice a9 (r.sids.length + 1) c9) (.slice a4 r.locs.length c4)) 27 (0, 0)) * (row 3 1 (.slice a9 (r.sids.length + 1) c9) (r.sids ++ [(1 : Int)]).length (ivs (r.sids ++ [1])) * (row 31 3 (.slice a4 r.locs.length c4) r.locs.length (r.locs.flatMap lcC) * emp)))
      rw [e1, e2]
      refine (s8.eq (Q := row 3 1 (.slice a3 r.sids.length c3) r.sids.length (ivs r.sids) * (pts pr (.cells (rcA (badF r 5 (bb + 1)) (.slice a9 (r.sids.length + 1) c9) (.slice a4 r.locs.length c4)) 27 (0, 0)) * (row 3 1 (.slice a9 (r.sids.length + 1) c9) (r.sids.length + 1) (ivs r.sids ++ [.int .i64 1]) * (row 31 3 (.slice a4 r.locs.length c4) r.locs.length (r.locs.flatMap lcC) * emp)))) ?_).right
      ac_rfl
    · have s4 := S3.out.alloc (.cells #[] 31)
      have s5 := s4.rowMk (n := 0) (cap := 0) (size := 3) (xs := []) (by decide) (by decide) (by simp) rfl
      have c0 := s5.right.cell 6
      simp at c0
      have hrd : Rd (w3.alloc (.cells #[] 31)) a4 (r.locs.flatMap lcC) := LS.rd (St.ls (s5.right.right.right))
      have hnn : a4 = none → c4 = 0 := (LS.nn (St.ls (s5.right.right.right)))
      have S5 := Lib.hid s5
      have HRD := Lib.hid hrd
      have HNN := Lib.hid hnn
      clear s4 s5 hrd hnn
      go_wp2_with (first
        | (((have q := S5); clear q); at_builtin; go_must (refine wpl_append rfl _ _ rfl tL S5.out a4 r.locs.length c4 (r.locs.flatMap lcC) rfl rfl HRD.out HNN.out (flat3 _) (by intro u hu; simp [lcC] at hu; obtain ⟨z, -, h⟩ := hu; rcases h with rfl | rfl | rfl <;> rfl) (by unfold maxLen; omega) (by omega) ?_); intro v6 w6 s6 _; rw [Nat.zero_add, List.nil_append] at s6; obtain ⟨a8, c8, rfl, -⟩ := s6.rowSlice; have S6 := Lib.hid (s6.alloc (.cells #[.int .i64 0, .int .i64 0, .int .i64 1] 31)); clear s6 S5 HRD HNN c0)
        | (((have q := S6); clear q); at_builtin; go_must (refine wpl_append rfl _ _ rfl tL S6.out.right (some ⟨w6.heap.size, 0, none⟩) 1 1 ([.int .i64 0, .int .i64 0, .int .i64 1]) rfl rfl (S6.out.rd 0 3) (fun e => by cases e) rfl (by intro u hu; simp at hu; rcases hu with rfl | rfl <;> rfl) (by unfold maxLen; omega) (by omega) ?_); intro v7 w7 s7 _; obtain ⟨a9, c9, rfl, -⟩ := s7.rowSlice; have c1 := s7.right.cell 6; have g1 := s7.right.free 6; simp at c1; have S7 := Lib.hid s7; clear s7 S6))
      go_meet
      have s8 : St W.heap.size W _ (pts pr (.cells (rcA (badF r 6 (bb + 1)) (.slice a3 r.sids.length c3) (.slice a9 (r.locs.length + 1) c9)) 27 (0, 0)) * (row 31 3 (.slice a9 (r.locs.length + 1) c9) (r.locs.length + 1) (r.locs.flatMap lcC ++ [.int .i64 0, .int .i64 0, .int .i64 1]) * (row 3 1 (.slice a3 r.sids.length c3) r.sids.length (ivs r.sids) * (row 31 3 (.slice a4 r.locs.length c4) r.locs.length (r.locs.flatMap lcC) * emp)))) := (S7.out.eq (sep_left_comm _ _ _)).set 6 (.slice a9 (r.locs.length + 1) c9)
      refine ⟨badF r 6 (bb + 1), (.slice a3 r.sids.length c3), (.slice a9 (r.locs.length + 1) c9), Hbad.out 6, by show r.key.length ≤ 100; omega, by show r.sids.length ≤ 10; omega, ?_⟩
      have e1 : (r.locs ++ [(⟨0, 0, 1⟩ : Lc)]).flatMap lcC = r.locs.flatMap lcC ++ [.int .i64 0, .int .i64 0, .int .i64 1] := by simp [ivs, lcC]
      have e2 : (r.locs ++ [(⟨0, 0, 1⟩ : Lc)]).length = r.locs.length + 1 := by simp
      show St W.heap.size W _ (pts pr (.cells (rcA (badF r 6 (bb + 1)) (.slice a3 r.sids.length c3) (.slice a9 (r.locs.length + 1) c9)) 27 (0, 0)) * (row 3 1 (.slice a3 r.sids.length c3) r.sids.length (ivs r.sids) * (row 31 3 (.slice a9 (r.locs.length + 1) c9) (r.locs ++ [(⟨0, 0, 1⟩ : Lc)]).length ((r.locs ++ [(⟨0, 0, 1⟩ : Lc)]).flatMap lcC) * emp)))
      rw [e1, e2]
      refine (s8.eq (Q := row 31 3 (.slice a4 r.locs.length c4) r.locs.length (r.locs.flatMap lcC) * (pts pr (.cells (rcA (badF r 6 (bb + 1)) (.slice a3 r.sids.length c3) (.slice a9 (r.locs.length + 1) c9)) 27 (0, 0)) * (row 3 1 (.slice a3 r.sids.length c3) r.sids.length (ivs r.sids) * (row 31 3 (.slice a9 (r.locs.length + 1) c9) (r.locs.length + 1) (r.locs.flatMap lcC ++ [.int .i64 0, .int .i64 0, .int .i64 1]) * emp)))) ?_).right
      ac_rfl
    · have c0 := S3.out.cell 9
      have g0 := S3.out.free 9
      simp at c0
      go_wp2_with fail
      go_meet
      exact ⟨badF r 7 (bb + 1), _, _, Hbad.out 7, by show r.key.length ≤ 100; omega, by show r.sids.length ≤ 10; omega, S3.out.set 9 _⟩
  case rest =>
  obtain ⟨q, sv, lw, hq, hk, hs, s⟩ := hcut
  clear S3 Hbad Hok
  obtain ⟨a5, c5, rfl, -⟩ := s.right.rowSlice
  obtain ⟨a6, c6, rfl, -⟩ := s.right.right.rowSlice
  have c0 := s.cell 0
  have c1 := s.cell 1
  have c2 := s.cell 2
  have c3 := s.cell 3
  have c4 := s.cell 4
  have c5 := s.cell 5
  have c6 := s.cell 6
  have c7 := s.cell 7
  have c8 := s.cell 8
  have c9 := s.cell 9
  have c10 := s.cell 10
  have c11 := s.cell 11
  have c12 := s.cell 12
  unfold rcA at c0 c1 c2 c3 c4 c5 c6 c7 c8 c9 c10 c11 c12
  simp at c0 c1 c2 c3 c4 c5 c6 c7 c8 c9 c10 c11 c12
  have qe := encode_no q _ _ wc (St.iS s.right) (St.ls s.right.right) (by unfold maxLen; omega) (by omega) hq
  unfold rcV at qe
  have Q := Lib.hid qe
  have S := Lib.hid s
  have Hq := Lib.hid hq
  clear hq
  clear s qe
  go_wp2_with fail
  refine Q.out.mono ?_
  rintro e w4 ⟨rfl, a7⟩
  have s := S.out.keep a7
  clear c0 c1 c2 c3 c4 c5 c6 c7 c8 c9 c10 c11 c12 S Q a7
  have c0 := s.cell 0
  have c1 := s.cell 1
  have c2 := s.cell 2
  have c3 := s.cell 3
  have c4 := s.cell 4
  have c5 := s.cell 5
  have c6 := s.cell 6
  have c7 := s.cell 7
  have c8 := s.cell 8
  have c9 := s.cell 9
  have c10 := s.cell 10
  have c11 := s.cell 11
  have c12 := s.cell 12
  unfold rcA at c0 c1 c2 c3 c4 c5 c6 c7 c8 c9 c10 c11 c12
  simp at c0 c1 c2 c3 c4 c5 c6 c7 c8 c9 c10 c11 c12
  have qe := ok_calls q _ _ w4 (St.iS s.right) (St.ls s.right.right) (by unfold maxLen; omega) (by omega)
  rw [Hq.out] at qe
  unfold rcV at qe
  have Q := Lib.hid qe
  have S := Lib.hid s
  clear s qe
  go_wp2_with fail
  refine Q.out.mono ?_
  rintro e w5 ⟨rfl, a7⟩
  have S5 := Lib.hid (S.out.keep a7).below
  clear a7 c0 c1 c2 c3 c4 c5 c6 c7 c8 c9 c10 c11 c12 S Q
  go_wp2_with fail
  refine (awake_calls _).mono ?_
  rintro e w6 ⟨rfl, a8⟩
  have S6 := Lib.hid (Add.trans (show Add W w5 from S5.out) a8)
  clear a8
  go_wp2_with fail
  go_ret
  exact ⟨rfl, S6.out⟩
end Go.Proofs.Ytnfkcmcchkcflaa.RcL
