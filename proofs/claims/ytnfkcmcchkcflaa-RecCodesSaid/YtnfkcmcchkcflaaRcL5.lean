/- The laws of records, walked: RecCodes. No condition. -/
import Derived.Test.YtnfkcmcchkcflaaRcL4
import Derived.Test.YtnfkcmcchkcflaaRcD4
import Derived.Test.YtnfkcmcchkcflaaRcD5
set_option linter.unusedSimpArgs false
set_option linter.unusedVariables false
namespace Go.Proofs.Ytnfkcmcchkcflaa.RcL
open Go Go.RowKit Go.Proofs.Ytnfkcmcchkcflaa Go.Proofs.Ytnfkcmcchkcflaa.Sp Go.Proofs.Ytnfkcmcchkcflaa.Reg Go.Proofs.Ytnfkcmcchkcflaa.RcM Go.Proofs.Ytnfkcmcchkcflaa.SlW Go.Proofs.Ytnfkcmcchkcflaa.Rd Go.Proofs.Ytnfkcmcchkcflaa.RcW Go.Proofs.Ytnfkcmcchkcflaa.RcD
/-- A record beside what it reads. -/
def RecAt (W : World) (p : Nat) (r : RcM.Rc) (sv lv : Value) (H : HP) (w : World) : Prop :=
  St W.heap.size W w (pts p (.cells (rcA r sv lv) 27 (0, 0)) * H) ∧ IReads W.heap.size W H sv r.sids ∧ LReads W.heap.size W H lv r.locs
section
variable {W w w' : World} {p : Nat} {r : RcM.Rc} {sv lv : Value} {H K : HP}
theorem RecAt.keep (h : RecAt W p r sv lv H w) (a : Add w w') : RecAt W p r sv lv H w' := ⟨h.1.keep a, h.2⟩
theorem RecAt.is (h : RecAt W p r sv lv H w) : IS w sv r.sids := h.2.1 _ _ h.1
theorem RecAt.ls (h : RecAt W p r sv lv H w) : LS w lv r.locs := h.2.2 _ _ h.1
theorem RecAt.cell (h : RecAt W p r sv lv H w) (i : Nat) : w.cell? ⟨p, i, none⟩ = (rcA r sv lv)[i]? := h.1.cell i
theorem IReads.more (h : IReads W.heap.size W H sv r.sids) (K : HP) : IReads W.heap.size W (K * H) sv r.sids := fun w X s => h w (X * K) (s.eq (by ac_rfl))
theorem LReads.more (h : LReads W.heap.size W H lv r.locs) (K : HP) : LReads W.heap.size W (K * H) lv r.locs := fun w X s => h w (X * K) (s.eq (by ac_rfl))
theorem RecAt.enc (h : RecAt W p r sv lv H w) (ok : rOk r = true) : Calls Try.prog 9 #[rcV r sv lv] w (fun e w' => ∃ g c, e = .returned (.tuple #[.slice (some ⟨g, 0, none⟩) (rBytes r).length c, .bool true]) ∧
    RecAt W p r sv lv (row 5 1 (.slice (some ⟨g, 0, none⟩) (rBytes r).length c) (rBytes r).length (bvs (rBytes r)) * H) w') := by
  refine (encode_ok r sv lv w (IReads.more h.2.1 _) (LReads.more h.2.2 _) ok h.1).mono ?_
  rintro e w' ⟨g, c, rfl, s'⟩
  exact ⟨g, c, rfl, s'.eq (sep_left_comm _ _ _), IReads.more h.2.1 _, LReads.more h.2.2 _⟩
end
/-- A record from numbers, or any. -/
def CodesAt (W : World) (p : Nat) (n : Nat) (w : World) : Prop := ∃ (r : RcM.Rc) (a : Option Addr) (c : Nat) (a2 : Option Addr) (c2 : Nat) (H : HP), (0 < n → rOk r = true) ∧ r.key.length ≤ maxLen ∧ r.sids.length ≤ 1000000 ∧ r.locs.length ≤ 1000000 ∧ RecAt W p r (.slice a r.sids.length c) (.slice a2 r.locs.length c2) H w
set_option maxRecDepth 100000 in
set_option maxHeartbeats 16000000 in
theorem codes_walk (r : RcM.Rc) (sv lv : Value) (a1 : Option Addr) (c1 : Nat) (l : List Int) (W : World) (hs : IS W sv r.sids) (hl : LS W lv r.locs) (hk : r.key.length ≤ maxLen) (h1 : IS W (.slice a1 l.length c1) l) (_y1 : l.length * 8 ≤ 140737488351232) :
    Calls Try.prog 4 #[rcV r sv lv, .slice a1 l.length c1] W fun e w' => e = .returned (.bool true) ∧ Below W.heap.size W w' := by
  have hb0 : ∀ w, Below W.heap.size W w → IS w (.slice a1 l.length c1) l := fun w h => h1.below h
  have HRC := Lib.hid (fun (w : World) (R : HP) (s : St W.heap.size W w R) => rec_calls a1 c1 l hb0 w s)
  have HZ := Lib.hid (recL_ok l)
  generalize recL l = z at *
  clear hb0
  obtain ⟨sa, sc, rfl, q1, q2, q3, -⟩ := id hs
  obtain ⟨la, lc, rfl, p1, p2, p3, -⟩ := id hl
  have HS := Lib.hid hs
  have HL := Lib.hid hl
  have hsz : (⟨r.key.toArray⟩ : ByteArray).size = r.key.length := by simp [ByteArray.size]
  unfold maxLen at q2 p2 hk
  clear q3 p3 hs hl h1 _y1
  unfold rcV
  by_cases hg : 20 < r.sids.length ∨ 40 < r.locs.length ∨ 100 < r.key.length
  case pos =>
    have HA := Lib.hid (Add.alloc W (.cells #[.int .i64 r.kind, str r.key, .int .i64 r.n, .int .i64 r.sid, .slice sa r.sids.length sc, .int .i64 r.colour, .slice la r.locs.length lc, .int .i64 r.tab.hot, .int .i64 r.tab.warm, .int .i64 r.tab.gap, .int .i64 r.tab.add, .int .i64 r.tab.top, .int .i64 r.tab.half] 27))
    have h1 : 20 < r.sids.length ∨ (¬ (20 : Int) < r.sids.length ∧ 40 < r.locs.length) ∨ (¬ (20 : Int) < r.sids.length ∧ ¬ (40 : Int) < r.locs.length ∧ 100 < r.key.length) := by omega
    clear hg
    rcases h1 with h1 | ⟨h0, h1⟩ | ⟨h0, h2, h1⟩
    all_goals
      have h1' : (20 : Int) < r.sids.length ∨ (40 : Int) < r.locs.length ∨ (100 : Int) < r.key.length := by omega
      go_enter Try.func4, Try.ntmps4
      go_wp2_with fail
      refine (awake_calls _).mono ?_
      rintro e w1 ⟨rfl, a1⟩
      have A := Lib.hid (HA.out.trans a1)
      clear a1
      go_wp2_with fail
      go_ret
      exact ⟨rfl, A.out⟩
  have g1 : ¬ (20 : Int) < r.sids.length := by omega
  have g2 : ¬ (40 : Int) < r.locs.length := by omega
  have g3 : ¬ (100 : Int) < r.key.length := by omega
  have h0 : CodesAt W (W.heap.size + 1) 0 ((W.alloc (.cells #[.int .i64 r.kind, str r.key, .int .i64 r.n, .int .i64 r.sid, .slice sa r.sids.length sc, .int .i64 r.colour, .slice la r.locs.length lc, .int .i64 r.tab.hot, .int .i64 r.tab.warm, .int .i64 r.tab.gap, .int .i64 r.tab.add, .int .i64 r.tab.top, .int .i64 r.tab.half] 27)).alloc (.cells #[.int .i64 r.kind, str r.key, .int .i64 r.n, .int .i64 r.sid, .slice sa r.sids.length sc, .int .i64 r.colour, .slice la r.locs.length lc, .int .i64 r.tab.hot, .int .i64 r.tab.warm, .int .i64 r.tab.gap, .int .i64 r.tab.add, .int .i64 r.tab.top, .int .i64 r.tab.half] 27)) := by
    refine ⟨r, sa, sc, la, lc, pts W.heap.size (.cells #[.int .i64 r.kind, str r.key, .int .i64 r.n, .int .i64 r.sid, .slice sa r.sids.length sc, .int .i64 r.colour, .slice la r.locs.length lc, .int .i64 r.tab.hot, .int .i64 r.tab.warm, .int .i64 r.tab.gap, .int .i64 r.tab.add, .int .i64 r.tab.top, .int .i64 r.tab.half] 27 (0, 0)) * emp, fun h => absurd h (by omega), by unfold maxLen; omega, by omega, by omega, ?_, ?_, ?_⟩
    rotate_left
    · exact fun w K s => HS.out.below s.below
    · exact fun w K s => HL.out.below s.below
    · have s := ((St.init W).alloc (.cells #[.int .i64 r.kind, str r.key, .int .i64 r.n, .int .i64 r.sid, .slice sa r.sids.length sc, .int .i64 r.colour, .slice la r.locs.length lc, .int .i64 r.tab.hot, .int .i64 r.tab.warm, .int .i64 r.tab.gap, .int .i64 r.tab.add, .int .i64 r.tab.top, .int .i64 r.tab.half] 27)).alloc (.cells #[.int .i64 r.kind, str r.key, .int .i64 r.n, .int .i64 r.sid, .slice sa r.sids.length sc, .int .i64 r.colour, .slice la r.locs.length lc, .int .i64 r.tab.hot, .int .i64 r.tab.warm, .int .i64 r.tab.gap, .int .i64 r.tab.add, .int .i64 r.tab.top, .int .i64 r.tab.half] 27)
      rw [show (W.alloc (.cells #[.int .i64 r.kind, str r.key, .int .i64 r.n, .int .i64 r.sid, .slice sa r.sids.length sc, .int .i64 r.colour, .slice la r.locs.length lc, .int .i64 r.tab.hot, .int .i64 r.tab.warm, .int .i64 r.tab.gap, .int .i64 r.tab.add, .int .i64 r.tab.top, .int .i64 r.tab.half] 27 (0, 0))).heap.size = W.heap.size + 1 by simp] at s
      exact s
  have H0 := Lib.hid h0
  clear h0 hg HS HL
  go_enter Try.func4, Try.ntmps4
  go_wp2_with fail
  go_loopw [6] (fun i wr => ∃ n : Nat, n ≤ 2 ∧ i = .int .i64 n ∧ CodesAt W (W.heap.size + 1) n wr) (fun i => fun _ => 2 - (intOf i).toNat)
  case atStart => exact ⟨0, Nat.zero_le _, rfl, H0.out⟩
  case round =>
    obtain ⟨n, hn, rfl, hrel⟩ := hrel
    clear H0 g1 g2 g3 hsz q1 q2 p1 p2 hk
    generalize W.heap.size + 1 = p at *
    by_cases hlt : n < 2
    · have hltI : (n : Int) < 2 := by omega
      obtain ⟨q, a, c, a2, c2, H, hq, hk, hsn, hln, h⟩ := hrel
      have HR := Lib.hid h
      clear h
      have x0 := HR.out.cell 0
      have x1 := HR.out.cell 1
      have x2 := HR.out.cell 2
      have x3 := HR.out.cell 3
      have x4 := HR.out.cell 4
      have x5 := HR.out.cell 5
      have x6 := HR.out.cell 6
      have x7 := HR.out.cell 7
      have x8 := HR.out.cell 8
      have x9 := HR.out.cell 9
      have x10 := HR.out.cell 10
      have x11 := HR.out.cell 11
      have x12 := HR.out.cell 12
      unfold rcA at x0 x1 x2 x3 x4 x5 x6 x7 x8 x9 x10 x11 x12
      simp at x0 x1 x2 x3 x4 x5 x6 x7 x8 x9 x10 x11 x12
      cases ho : rOk q
      · have qe := encode_no q (.slice a q.sids.length c) (.slice a2 q.locs.length c2) wr HR.out.is HR.out.ls hk hsn ho
        unfold rcV at qe
        have Q := Lib.hid qe
        have HN := Lib.hid ho
        clear qe ho hq
        go_wp2_with fail
        refine Q.out.mono ?_
        rintro e w1 ⟨rfl, y1⟩
        have HR1 := Lib.hid (HR.out.keep y1)
        clear x0 x1 x2 x3 x4 x5 x6 x7 x8 x9 x10 x11 x12
        clear y1 Q HR
        have x0 := HR1.out.cell 0
        have x1 := HR1.out.cell 1
        have x2 := HR1.out.cell 2
        have x3 := HR1.out.cell 3
        have x4 := HR1.out.cell 4
        have x5 := HR1.out.cell 5
        have x6 := HR1.out.cell 6
        have x7 := HR1.out.cell 7
        have x8 := HR1.out.cell 8
        have x9 := HR1.out.cell 9
        have x10 := HR1.out.cell 10
        have x11 := HR1.out.cell 11
        have x12 := HR1.out.cell 12
        unfold rcA at x0 x1 x2 x3 x4 x5 x6 x7 x8 x9 x10 x11 x12
        simp at x0 x1 x2 x3 x4 x5 x6 x7 x8 x9 x10 x11 x12
        have qe := recok_calls q (.slice a q.sids.length c) (.slice a2 q.locs.length c2) w1 HR1.out.is HR1.out.ls hk
        rw [HN.out] at qe
        unfold rcV at qe
        have Q := Lib.hid qe
        clear qe
        go_wp2_with fail
        refine Q.out.mono ?_
        rintro e w2 ⟨rfl, y2⟩
        have HR2 := Lib.hid (HR1.out.keep y2)
        clear x0 x1 x2 x3 x4 x5 x6 x7 x8 x9 x10 x11 x12
        clear y2 Q HR1
        go_wp2_with fail
        refine wp_region_rx (fun _ w' => RecAt W p q (.slice a q.sids.length c) (.slice a2 q.locs.length c2) H w') [] mixed (by kernel_rfl) (by kernel_rfl) (HR2.out.keep (Add.drew _)) ?_
        refine RXl.exact (.bool false) rfl rfl rfl rfl rfl (fun _ _ _ _ _ => rfl) ?_
        refine RXl.exact (.bool false) rfl rfl rfl rfl rfl (fun _ _ _ _ _ => rfl) ?_
        refine RXl.exact (.bool false) rfl rfl rfl rfl rfl (fun j τ w' hj hJ => by simp [rho, upd, Spec.val, execOp, go_sem]) ?_
        refine RXl.exact (.bool false) rfl rfl rfl rfl rfl (fun _ _ _ _ _ => rfl) ?_
        refine RXl.exact (.agg #[.int .i64 q.kind, str q.key, .int .i64 q.n, .int .i64 q.sid, .slice a q.sids.length c, .int .i64 q.colour, .slice a2 q.locs.length c2, .int .i64 q.tab.hot, .int .i64 q.tab.warm, .int .i64 q.tab.gap, .int .i64 q.tab.add, .int .i64 q.tab.top, .int .i64 q.tab.half]) rfl rfl rfl rfl rfl (fun j τ w' hj hJ => by have x0 := RecAt.cell hJ 0; have x1 := RecAt.cell hJ 1; have x2 := RecAt.cell hJ 2; have x3 := RecAt.cell hJ 3; have x4 := RecAt.cell hJ 4; have x5 := RecAt.cell hJ 5; have x6 := RecAt.cell hJ 6; have x7 := RecAt.cell hJ 7; have x8 := RecAt.cell hJ 8; have x9 := RecAt.cell hJ 9; have x10 := RecAt.cell hJ 10; have x11 := RecAt.cell hJ 11; have x12 := RecAt.cell hJ 12; unfold rcA at x0 x1 x2 x3 x4 x5 x6 x7 x8 x9 x10 x11 x12; simp at x0 x1 x2 x3 x4 x5 x6 x7 x8 x9 x10 x11 x12; simp [rho, upd, Spec.val, execOp, go_sem, x0, x1, x2, x3, x4, x5, x6, x7, x8, x9, x10, x11, x12]) ?_
        refine RXl.callr (.bool false) _ [.agg #[.int .i64 q.kind, str q.key, .int .i64 q.n, .int .i64 q.sid, .slice a q.sids.length c, .int .i64 q.colour, .slice a2 q.locs.length c2, .int .i64 q.tab.hot, .int .i64 q.tab.warm, .int .i64 q.tab.gap, .int .i64 q.tab.add, .int .i64 q.tab.top, .int .i64 q.tab.half]] [.tmp 45] _ rfl rfl rfl rfl rfl rfl (fun _ => rfl) (fun j τ w' hj hJ => (ok_calls q _ _ w' hJ.is hJ.ls hk hsn).mono fun _ _ ⟨h1, h2⟩ => ⟨h1.trans (by rw [HN.out]), hJ.keep h2⟩) ?_
        refine RXl.exact (.bool false) rfl rfl rfl rfl rfl (fun _ _ _ _ _ => rfl) ?_
        refine RXl.exact (.bool false) rfl rfl rfl rfl rfl (fun j τ w' hj hJ => by simp [rho, upd, Spec.val, execOp, go_sem]) ?_
        refine RXl.exact (.bool false) rfl rfl rfl rfl rfl (fun _ _ _ _ _ => rfl) ?_
        refine RXl.exact (.bool false) rfl rfl rfl rfl rfl (fun _ _ _ _ _ => rfl) ?_
        refine RXl.exact (.bool false) rfl rfl rfl rfl rfl (fun _ _ _ _ _ => rfl) ?_
        refine RXl.exact (.bool true) rfl rfl rfl rfl rfl (fun j τ w' hj hJ => by simp [rho, upd, Spec.val, execOp, go_sem]) ?_
        refine RXl.exact (.bool true) rfl rfl rfl rfl rfl (fun _ _ _ _ _ => rfl) ?_
        refine RXl.exact (.slice none 0 0) rfl rfl rfl rfl rfl (fun _ _ _ _ _ => rfl) ?_
        refine RXl.exact (.int .i64 0) rfl rfl rfl rfl rfl (fun j τ w' hj hJ => by simp [rho, upd, Spec.val, execOp, go_sem, resolve, invoke, builtin]) ?_
        refine RXl.exact (.bool false) rfl rfl rfl rfl rfl (fun j τ w' hj hJ => by simp [rho, upd, Spec.val, execOp, go_sem]) ?_
        refine RXl.exact (.bool false) rfl rfl rfl rfl rfl (fun _ _ _ _ _ => rfl) ?_
        refine RXl.exact (.bool false) rfl rfl rfl rfl rfl (fun _ _ _ _ _ => rfl) ?_
        refine RXl.exact (.bool false) rfl rfl rfl rfl rfl (fun _ _ _ _ _ => rfl) ?_
        refine RXl.exact (.bool false) rfl rfl rfl rfl rfl (fun _ _ _ _ _ => rfl) ?_
        refine RXl.exact (.bool false) rfl rfl rfl rfl rfl (fun _ _ _ _ _ => rfl) ?_
        refine RXl.skip rfl rfl rfl rfl ?_
        refine RXl.skip rfl rfl rfl rfl ?_
        refine RXl.skip rfl rfl rfl rfl ?_
        refine RXl.skip rfl rfl rfl rfl ?_
        refine RXl.skip rfl rfl rfl rfl ?_
        refine RXl.exact (.bool false) rfl rfl rfl rfl rfl (fun _ _ _ _ _ => rfl) ?_
        refine RXl.exact (.bool false) rfl rfl rfl rfl rfl (fun _ _ _ _ _ => rfl) ?_
        refine RXl.nilx _ (Agr.upd _ _ (Agr.upd _ _ (Agr.upd _ _ (Agr.upd _ _ (Agr.upd _ _ (Agr.upd _ _ (Agr.upd _ _ (Agr.upd _ _ (Agr.upd _ _ (Agr.upd _ _ (Agr.upd _ _ (Agr.upd _ _ (Agr.upd _ _ (Agr.upd _ _ (Agr.upd _ _ (Agr.upd _ _ (Agr.upd _ _ (Agr.upd _ _ (Agr.upd _ _ (Agr.upd _ _ (Agr.upd _ _ (Agr.upd _ _ (Agr.upd _ _ (Agr.upd _ _ (Agr.upd _ _ (Agr.upd _ _ (Agr.upd _ _ (Agr.upd _ _ (Agr.base _))))))))))))))))))))))))))))) fun w8 hJ => ?_
        obtain ⟨_, hJ⟩ := hJ
        simp only [Act.put, List.setIfInBounds_toArray, List.set_cons_succ, List.set_cons_zero]
        have S8 := Lib.hid (show RecAt W p q (.slice a q.sids.length c) (.slice a2 q.locs.length c2) H w8 from hJ).1
        clear hJ HR2
        go_wp2_with fail
        refine (HRC.out _ _ S8.out).mono ?_
        rintro e w9 ⟨sv9, lv9, rfl, s9⟩
        obtain ⟨b9, d9, rfl, -⟩ := s9.rowSlice
        obtain ⟨b8, d8, rfl, -⟩ := s9.right.rowSlice
        have S9 := Lib.hid (s9.eq (Q := pts p (.cells (rcA q (.slice a q.sids.length c) (.slice a2 q.locs.length c2)) 27 (0, 0)) * _) (by rw [← sep_assoc, sep_left_comm]))
        clear s9 S8
        unfold rcV
        simp only []
        go_at_K
        rename_i hK
        refine hK _ _ ?_
        refine wpList_store_row rfl 27 (.tmp 5) (.tmp 89) rfl p (rcA z (.slice b9 z.sids.length d9) (.slice b8 z.locs.length d8)) (by kernel_rfl) (by kernel_rfl) 27 _ S9.out.block (by kernel_rfl) (by kernel_rfl) (by kernel_rfl) (wpList_nil ?_)
        have S10 := Lib.hid (S9.out.setRow (rcA z (.slice b9 z.sids.length d9) (.slice b8 z.locs.length d8)))
        clear S9 hK
        go_wp2_with fail
        go_roundw
        case rel => exact ⟨n + 1, by omega, by go_num, z, b9, d9, b8, d8, _, fun _ => HZ.out, by have := ok_key HZ.out; unfold maxLen; omega, by have := ok_sids HZ.out; omega, by have := ok_locs HZ.out; omega, S10.out, fun w K s => St.iS (s.eq (Q := row 3 1 (.slice b9 z.sids.length d9) z.sids.length (ivs z.sids) * _) (by rw [sep_assoc, sep_left_comm])), fun w K s => St.ls (s.eq (Q := row 31 3 (.slice b8 z.locs.length d8) z.locs.length (z.locs.flatMap lcC) * _) (by rw [sep_assoc, ← sep_assoc K, sep_left_comm]))⟩
        case measure => simp [intOf]; omega
      · have HN := Lib.hid ho
        have HRB := Lib.hid (rOf_bytes ho)
        have hbl := rBytes_len ho
        have Q := Lib.hid (RecAt.enc HR.out ho)
        unfold rcV at Q
        clear ho hq
        go_wp2_with fail
        refine Q.out.mono ?_
        rintro e w1 ⟨g, cg, rfl, h1⟩
        have HR1 := Lib.hid h1
        clear x0 x1 x2 x3 x4 x5 x6 x7 x8 x9 x10 x11 x12
        clear h1 Q HR
        have x0 := HR1.out.cell 0
        have x1 := HR1.out.cell 1
        have x2 := HR1.out.cell 2
        have x3 := HR1.out.cell 3
        have x4 := HR1.out.cell 4
        have x5 := HR1.out.cell 5
        have x6 := HR1.out.cell 6
        have x7 := HR1.out.cell 7
        have x8 := HR1.out.cell 8
        have x9 := HR1.out.cell 9
        have x10 := HR1.out.cell 10
        have x11 := HR1.out.cell 11
        have x12 := HR1.out.cell 12
        unfold rcA at x0 x1 x2 x3 x4 x5 x6 x7 x8 x9 x10 x11 x12
        simp at x0 x1 x2 x3 x4 x5 x6 x7 x8 x9 x10 x11 x12
        have qe := recok_calls q _ _ w1 HR1.out.is HR1.out.ls hk
        rw [HN.out] at qe
        unfold rcV at qe
        have Q := Lib.hid qe
        clear qe
        go_wp2_with fail
        refine Q.out.mono ?_
        rintro e w2 ⟨rfl, y2⟩
        have HR2 := Lib.hid (HR1.out.keep y2)
        clear x0 x1 x2 x3 x4 x5 x6 x7 x8 x9 x10 x11 x12
        clear y2 Q HR1
        go_wp2_with fail
        refine wp_region_rx (fun _ w' => RecAt W p q (.slice a q.sids.length c) (.slice a2 q.locs.length c2) (row 5 1 (.slice (some ⟨g, 0, none⟩) (rBytes q).length cg) (rBytes q).length (bvs (rBytes q)) * H) w') [] mixed (by kernel_rfl) (by kernel_rfl) (HR2.out.keep (Add.drew _)) ?_
        refine RXl.exact (.bool true) rfl rfl rfl rfl rfl (fun _ _ _ _ _ => rfl) ?_
        refine RXl.exact (.bool true) rfl rfl rfl rfl rfl (fun _ _ _ _ _ => rfl) ?_
        refine RXl.exact (.bool false) rfl rfl rfl rfl rfl (fun j τ w' hj hJ => by simp [rho, upd, Spec.val, execOp, go_sem]) ?_
        refine RXl.exact (.bool false) rfl rfl rfl rfl rfl (fun _ _ _ _ _ => rfl) ?_
        refine RXl.exact (.agg #[.int .i64 q.kind, str q.key, .int .i64 q.n, .int .i64 q.sid, .slice a q.sids.length c, .int .i64 q.colour, .slice a2 q.locs.length c2, .int .i64 q.tab.hot, .int .i64 q.tab.warm, .int .i64 q.tab.gap, .int .i64 q.tab.add, .int .i64 q.tab.top, .int .i64 q.tab.half]) rfl rfl rfl rfl rfl (fun j τ w' hj hJ => by have x0 := RecAt.cell hJ 0; have x1 := RecAt.cell hJ 1; have x2 := RecAt.cell hJ 2; have x3 := RecAt.cell hJ 3; have x4 := RecAt.cell hJ 4; have x5 := RecAt.cell hJ 5; have x6 := RecAt.cell hJ 6; have x7 := RecAt.cell hJ 7; have x8 := RecAt.cell hJ 8; have x9 := RecAt.cell hJ 9; have x10 := RecAt.cell hJ 10; have x11 := RecAt.cell hJ 11; have x12 := RecAt.cell hJ 12; unfold rcA at x0 x1 x2 x3 x4 x5 x6 x7 x8 x9 x10 x11 x12; simp at x0 x1 x2 x3 x4 x5 x6 x7 x8 x9 x10 x11 x12; simp [rho, upd, Spec.val, execOp, go_sem, x0, x1, x2, x3, x4, x5, x6, x7, x8, x9, x10, x11, x12]) ?_
        refine RXl.callr (.bool true) _ [.agg #[.int .i64 q.kind, str q.key, .int .i64 q.n, .int .i64 q.sid, .slice a q.sids.length c, .int .i64 q.colour, .slice a2 q.locs.length c2, .int .i64 q.tab.hot, .int .i64 q.tab.warm, .int .i64 q.tab.gap, .int .i64 q.tab.add, .int .i64 q.tab.top, .int .i64 q.tab.half]] [.tmp 45] _ rfl rfl rfl rfl rfl rfl (fun _ => rfl) (fun j τ w' hj hJ => (ok_calls q _ _ w' hJ.is hJ.ls hk hsn).mono fun _ _ ⟨h1, h2⟩ => ⟨h1.trans (by rw [HN.out]), hJ.keep h2⟩) ?_
        refine RXl.exact (.bool true) rfl rfl rfl rfl rfl (fun _ _ _ _ _ => rfl) ?_
        refine RXl.exact (.bool false) rfl rfl rfl rfl rfl (fun j τ w' hj hJ => by simp [rho, upd, Spec.val, execOp, go_sem]) ?_
        refine RXl.exact (.bool false) rfl rfl rfl rfl rfl (fun _ _ _ _ _ => rfl) ?_
        refine RXl.exact (.bool false) rfl rfl rfl rfl rfl (fun _ _ _ _ _ => rfl) ?_
        refine RXl.exact (.bool true) rfl rfl rfl rfl rfl (fun _ _ _ _ _ => rfl) ?_
        refine RXl.exact (.bool false) rfl rfl rfl rfl rfl (fun j τ w' hj hJ => by simp [rho, upd, Spec.val, execOp, go_sem]) ?_
        refine RXl.exact (.bool false) rfl rfl rfl rfl rfl (fun _ _ _ _ _ => rfl) ?_
        refine RXl.skip rfl rfl rfl rfl ?_
        refine RXl.skip rfl rfl rfl rfl ?_
        refine RXl.skip rfl rfl rfl rfl ?_
        refine RXl.exact (.bool false) rfl rfl rfl rfl rfl (fun _ _ _ _ _ => rfl) ?_
        refine RXl.exact (.bool false) rfl rfl rfl rfl rfl (fun _ _ _ _ _ => rfl) ?_
        refine RXl.exact (.bool false) rfl rfl rfl rfl rfl (fun _ _ _ _ _ => rfl) ?_
        refine RXl.exact (.bool true) rfl rfl rfl rfl rfl (fun _ _ _ _ _ => rfl) ?_
        refine RXl.exact (.bool true) rfl rfl rfl rfl rfl (fun _ _ _ _ _ => rfl) ?_
        refine RXl.exact (.slice (some ⟨g, 0, none⟩) (rBytes q).length cg) rfl rfl rfl rfl rfl (fun _ _ _ _ _ => rfl) ?_
        refine RXl.exact (str (rBytes q)) rfl rfl rfl rfl rfl (fun j τ w' hj hJ => by have c := run_str (P := Try.prog) Try.underlying32 Try.underlying5 Try.underlying9 (hJ.1.right.bs); simp [rho, upd, Spec.val, execOp, go_sem, c]) ?_
        refine RXl.exact (.agg #[.int .i64 q.kind, str q.key, .int .i64 q.n, .int .i64 q.sid, .slice a q.sids.length c, .int .i64 q.colour, .slice a2 q.locs.length c2, .int .i64 q.tab.hot, .int .i64 q.tab.warm, .int .i64 q.tab.gap, .int .i64 q.tab.add, .int .i64 q.tab.top, .int .i64 q.tab.half]) rfl rfl rfl rfl rfl (fun j τ w' hj hJ => by have x0 := RecAt.cell hJ 0; have x1 := RecAt.cell hJ 1; have x2 := RecAt.cell hJ 2; have x3 := RecAt.cell hJ 3; have x4 := RecAt.cell hJ 4; have x5 := RecAt.cell hJ 5; have x6 := RecAt.cell hJ 6; have x7 := RecAt.cell hJ 7; have x8 := RecAt.cell hJ 8; have x9 := RecAt.cell hJ 9; have x10 := RecAt.cell hJ 10; have x11 := RecAt.cell hJ 11; have x12 := RecAt.cell hJ 12; unfold rcA at x0 x1 x2 x3 x4 x5 x6 x7 x8 x9 x10 x11 x12; simp at x0 x1 x2 x3 x4 x5 x6 x7 x8 x9 x10 x11 x12; simp [rho, upd, Spec.val, execOp, go_sem, x0, x1, x2, x3, x4, x5, x6, x7, x8, x9, x10, x11, x12]) ?_
        refine RXl.callr (str (rBytes q)) _ [.agg #[.int .i64 q.kind, str q.key, .int .i64 q.n, .int .i64 q.sid, .slice a q.sids.length c, .int .i64 q.colour, .slice a2 q.locs.length c2, .int .i64 q.tab.hot, .int .i64 q.tab.warm, .int .i64 q.tab.gap, .int .i64 q.tab.add, .int .i64 q.tab.top, .int .i64 q.tab.half]] [.tmp 64] _ rfl rfl rfl rfl rfl rfl (fun _ => rfl) (fun j τ w' hj hJ => (recbytes_calls q _ _ w' hJ.is hJ.ls HN.out).mono fun _ _ ⟨h1, h2⟩ => ⟨h1, hJ.keep h2⟩) ?_
        refine RXl.exact (.bool false) rfl rfl rfl rfl rfl (fun j τ w' hj hJ => by simp [rho, upd, Spec.val, execOp, go_sem]) ?_
        refine RXl.exact (.bool false) rfl rfl rfl rfl rfl (fun _ _ _ _ _ => rfl) ?_
        refine RXl.exact (.bool false) rfl rfl rfl rfl rfl (fun _ _ _ _ _ => rfl) ?_
        refine RXl.nilx _ (Agr.upd _ _ (Agr.upd _ _ (Agr.upd _ _ (Agr.upd _ _ (Agr.upd _ _ (Agr.upd _ _ (Agr.upd _ _ (Agr.upd _ _ (Agr.upd _ _ (Agr.upd _ _ (Agr.upd _ _ (Agr.upd _ _ (Agr.upd _ _ (Agr.upd _ _ (Agr.upd _ _ (Agr.upd _ _ (Agr.upd _ _ (Agr.upd _ _ (Agr.upd _ _ (Agr.upd _ _ (Agr.upd _ _ (Agr.upd _ _ (Agr.upd _ _ (Agr.upd _ _ (Agr.upd _ _ (Agr.upd _ _ (Agr.upd _ _ (Agr.upd _ _ (Agr.base _))))))))))))))))))))))))))))) fun w8 hJ => ?_
        obtain ⟨_, hJ⟩ := hJ
        simp only [Act.put, List.setIfInBounds_toArray, List.set_cons_succ, List.set_cons_zero]
        have HR3 := Lib.hid (show RecAt W p q (.slice a q.sids.length c) (.slice a2 q.locs.length c2) (row 5 1 (.slice (some ⟨g, 0, none⟩) (rBytes q).length cg) (rBytes q).length (bvs (rBytes q)) * H) w8 from hJ)
        clear hJ HR2
        have qd := decode_calls (some ⟨g, 0, none⟩) cg (rBytes q) w8 (fun w K s => St.bs (s.eq (Q := row 5 1 (.slice (some ⟨g, 0, none⟩) (rBytes q).length cg) (rBytes q).length (bvs (rBytes q)) * _) (by rw [← sep_assoc, sep_left_comm]))) HR3.out.1
        rw [HRB.out] at qd
        have Q := Lib.hid qd
        clear qd
        go_wp2_with fail
        refine Q.out.mono ?_
        rintro e w3 ⟨sv3, lv3, rfl, s3⟩
        obtain ⟨a3, c3, rfl, -⟩ := s3.rowSlice
        obtain ⟨a4, c4, rfl, -⟩ := s3.right.rowSlice
        simp only [Option.getD_some, Option.isSome_some] at s3 ⊢
        unfold rcV
        have s4 := s3.alloc (.cells (rcA q (.slice a3 q.sids.length c3) (.slice a4 q.locs.length c4)) 27)
        have hsr := samerec_calls q q (.slice a3 q.sids.length c3) (.slice a4 q.locs.length c4) (.slice a q.sids.length c) (.slice a2 q.locs.length c2) (w3.alloc (.cells (rcA q (.slice a3 q.sids.length c3) (.slice a4 q.locs.length c4)) 27)) (St.iS s4.right) (HR3.out.2.1 _ (pts w3.heap.size (.cells (rcA q (.slice a3 q.sids.length c3) (.slice a4 q.locs.length c4)) 27 (0, 0)) * (row 3 1 (.slice a3 q.sids.length c3) q.sids.length (ivs q.sids) * (row 31 3 (.slice a4 q.locs.length c4) q.locs.length (q.locs.flatMap lcC) * pts p (.cells (rcA q (.slice a q.sids.length c) (.slice a2 q.locs.length c2)) 27 (0, 0))))) (s4.eq (by ac_rfl))) (St.ls s4.right.right) (HR3.out.2.2 _ (pts w3.heap.size (.cells (rcA q (.slice a3 q.sids.length c3) (.slice a4 q.locs.length c4)) 27 (0, 0)) * (row 3 1 (.slice a3 q.sids.length c3) q.sids.length (ivs q.sids) * (row 31 3 (.slice a4 q.locs.length c4) q.locs.length (q.locs.flatMap lcC) * pts p (.cells (rcA q (.slice a q.sids.length c) (.slice a2 q.locs.length c2)) 27 (0, 0))))) (s4.eq (by ac_rfl)))
        have s5 := s4.eq (Q := pts p (.cells (rcA q (.slice a q.sids.length c) (.slice a2 q.locs.length c2)) 27 (0, 0)) * (pts w3.heap.size (.cells (rcA q (.slice a3 q.sids.length c3) (.slice a4 q.locs.length c4)) 27 (0, 0)) * (row 3 1 (.slice a3 q.sids.length c3) q.sids.length (ivs q.sids) * (row 31 3 (.slice a4 q.locs.length c4) q.locs.length (q.locs.flatMap lcC) * (row 5 1 (.slice (some ⟨g, 0, none⟩) (rBytes q).length cg) (rBytes q).length (bvs (rBytes q)) * H))))) (by ac_rfl)
        rw [decide_eq_true (rfl : q = q)] at hsr
        unfold rcV at hsr
        have QS := Lib.hid hsr
        have S5 := Lib.hid s5
        clear hsr s3 s4 s5 HR3 Q
        unfold rcA at QS
        have x0 := S5.out.cell 0
        have x1 := S5.out.cell 1
        have x2 := S5.out.cell 2
        have x3 := S5.out.cell 3
        have x4 := S5.out.cell 4
        have x5 := S5.out.cell 5
        have x6 := S5.out.cell 6
        have x7 := S5.out.cell 7
        have x8 := S5.out.cell 8
        have x9 := S5.out.cell 9
        have x10 := S5.out.cell 10
        have x11 := S5.out.cell 11
        have x12 := S5.out.cell 12
        unfold rcA at x0 x1 x2 x3 x4 x5 x6 x7 x8 x9 x10 x11 x12
        simp at x0 x1 x2 x3 x4 x5 x6 x7 x8 x9 x10 x11 x12
        go_wp2_with fail
        refine QS.out.mono ?_
        rintro e w6 ⟨rfl, y6⟩
        have S8 := Lib.hid (S5.out.keep (show Add (w3.alloc (.cells (rcA q (.slice a3 q.sids.length c3) (.slice a4 q.locs.length c4)) 27)) w6 from y6))
        clear x0 x1 x2 x3 x4 x5 x6 x7 x8 x9 x10 x11 x12
        clear y6 QS S5
        have hbl2 : ¬ (250 : Int) < (rBytes q).length := by omega
        go_wp2_with fail
        refine (HRC.out _ _ S8.out).mono ?_
        rintro e w9 ⟨sv9, lv9, rfl, s9⟩
        obtain ⟨b9, d9, rfl, -⟩ := s9.rowSlice
        obtain ⟨b8, d8, rfl, -⟩ := s9.right.rowSlice
        have S9 := Lib.hid (s9.eq (Q := pts p (.cells (rcA q (.slice a q.sids.length c) (.slice a2 q.locs.length c2)) 27 (0, 0)) * _) (by rw [← sep_assoc, sep_left_comm]))
        clear s9 S8
        unfold rcV
        simp only []
        go_at_K
        rename_i hK
        refine hK _ _ ?_
        refine wpList_store_row rfl 27 (.tmp 5) (.tmp 89) rfl p (rcA z (.slice b9 z.sids.length d9) (.slice b8 z.locs.length d8)) (by kernel_rfl) (by kernel_rfl) 27 _ S9.out.block (by kernel_rfl) (by kernel_rfl) (by kernel_rfl) (wpList_nil ?_)
        have S10 := Lib.hid (S9.out.setRow (rcA z (.slice b9 z.sids.length d9) (.slice b8 z.locs.length d8)))
        clear S9 hK
        go_wp2_with fail
        go_roundw
        case rel => exact ⟨n + 1, by omega, by go_num, z, b9, d9, b8, d8, _, fun _ => HZ.out, by have := ok_key HZ.out; unfold maxLen; omega, by have := ok_sids HZ.out; omega, by have := ok_locs HZ.out; omega, S10.out, fun w K s => St.iS (s.eq (Q := row 3 1 (.slice b9 z.sids.length d9) z.sids.length (ivs z.sids) * _) (by rw [sep_assoc, sep_left_comm])), fun w K s => St.ls (s.eq (Q := row 31 3 (.slice b8 z.locs.length d8) z.locs.length (z.locs.flatMap lcC) * _) (by rw [sep_assoc, ← sep_assoc K, sep_left_comm]))⟩
        case measure => simp [intOf]; omega
    · obtain rfl : n = 2 := by omega
      obtain ⟨q, a, c, a2, c2, H, hq, hk, hsn, hln, h⟩ := hrel
      have HR := Lib.hid h
      have HN := Lib.hid (hq (by omega))
      clear h hq hn hlt
      have x0 := HR.out.cell 0
      have x1 := HR.out.cell 1
      have x2 := HR.out.cell 2
      have x3 := HR.out.cell 3
      have x4 := HR.out.cell 4
      have x5 := HR.out.cell 5
      have x6 := HR.out.cell 6
      have x7 := HR.out.cell 7
      have x8 := HR.out.cell 8
      have x9 := HR.out.cell 9
      have x10 := HR.out.cell 10
      have x11 := HR.out.cell 11
      have x12 := HR.out.cell 12
      unfold rcA at x0 x1 x2 x3 x4 x5 x6 x7 x8 x9 x10 x11 x12
      simp at x0 x1 x2 x3 x4 x5 x6 x7 x8 x9 x10 x11 x12
      have qe := recok_calls q _ _ wr HR.out.is HR.out.ls hk
      rw [HN.out] at qe
      unfold rcV at qe
      have Q := Lib.hid qe
      clear qe
      go_wp2_with fail
      refine Q.out.mono ?_
      rintro e w1 ⟨rfl, y1⟩
      have S1 := Lib.hid (HR.out.1.keep y1)
      clear y1 Q HR
      go_wp2_with fail
      refine (awake_calls _).mono ?_
      rintro e w2 ⟨rfl, y2⟩
      have S2 := Lib.hid (S1.out.keep y2).below
      clear y2 S1
      go_wp2_with fail
      go_ret
      exact ⟨rfl, S2.out⟩
end Go.Proofs.Ytnfkcmcchkcflaa.RcL
