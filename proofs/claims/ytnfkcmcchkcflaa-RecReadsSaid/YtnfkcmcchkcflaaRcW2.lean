/- Package rec, walked: Ok. No condition. -/
import Derived.Test.YtnfkcmcchkcflaaRcW
set_option linter.unusedSimpArgs false
set_option linter.unusedVariables false
namespace Go.Proofs.Ytnfkcmcchkcflaa.RcW
open Go Go.RowKit Go.Proofs.Ytnfkcmcchkcflaa Go.Proofs.Ytnfkcmcchkcflaa.Sp Go.Proofs.Ytnfkcmcchkcflaa.Reg Go.Proofs.Ytnfkcmcchkcflaa.RcM Go.Proofs.Ytnfkcmcchkcflaa.SlW
/-- A record that can be read. -/
def RcR (w : World) (v : Value) (r : Rc) : Prop := ∃ sv lv, v = rcV r sv lv ∧ IS w sv r.sids ∧ LS w lv r.locs ∧ r.key.length ≤ maxLen ∧ r.sids.length ≤ 1000000
theorem shapes_at (k j : Nat) (hk : k ≤ 8) (hj : j < 7) : shapesA[k * 7 + j]? = (shC (shp k))[j]? := by
  have : ∀ k, k ≤ 8 → ∀ j, j < 7 → shapesA[k * 7 + j]? = (shC (shp k))[j]? := by
    intro k hk
    obtain rfl | rfl | rfl | rfl | rfl | rfl | rfl | rfl | rfl : k = 0 ∨ k = 1 ∨ k = 2 ∨ k = 3 ∨ k = 4 ∨ k = 5 ∨ k = 6 ∨ k = 7 ∨ k = 8 := by omega
    all_goals
      intro j hj
      obtain rfl | rfl | rfl | rfl | rfl | rfl | rfl : j = 0 ∨ j = 1 ∨ j = 2 ∨ j = 3 ∨ j = 4 ∨ j = 5 ∨ j = 6 := by omega
      all_goals rfl
  exact this k hk j hj
set_option maxRecDepth 100000 in
set_option maxHeartbeats 4000000 in
theorem ok_calls (r : Rc) (sv lv : Value) (w : World) (hs : IS w sv r.sids) (hl : LS w lv r.locs) (hk : r.key.length ≤ maxLen) (hn : r.sids.length ≤ 1000000) : Calls Try.prog 8 #[rcV r sv lv] w (RetA w (.bool (rOk r))) := by
  have HS := Lib.hid hs
  have HL := Lib.hid hl
  have E := Lib.hid (show rOk r = (inn r.kind 1 8 && (plain (shp r.kind.toNat) r && decide (r.sids.length = if 0 ≤ (shp r.kind.toNat).sids then 3 else 0) && r.sids.all (fun s => inn s (shp r.kind.toNat).sids 2147483647) &&
    (decide (r.locs.length = cntL (shp r.kind.toNat) r.sids) && r.locs.all lcOk))) from rfl)
  obtain ⟨sa, sc, e1, q1, q2, q3, -⟩ := hs
  obtain ⟨la, lc, e2, p1, p2, p3, -⟩ := hl
  subst e1 e2
  unfold maxLen at q2 p2
  clear q3 p3
  have hbx := fun (w1 : World) (a : Add (w.alloc (.cells #[.int .i64 r.kind, str r.key, .int .i64 r.n, .int .i64 r.sid, .slice sa r.sids.length sc, .int .i64 r.colour, .slice la r.locs.length lc, .int .i64 r.tab.hot, .int .i64 r.tab.warm, .int .i64 r.tab.gap, .int .i64 r.tab.add, .int .i64 r.tab.top, .int .i64 r.tab.half] 27)) w1) => box_cells a
  have hpl := fun (k : Nat) (h1 : 1 ≤ k) (h8 : k ≤ 8) (w : World) => plain_calls k h1 h8 r (.slice sa r.sids.length sc) (.slice la r.locs.length lc) w hk
  have hct := fun (x : Sh) (w : World) (h : IS w (.slice sa r.sids.length sc) r.sids) => count_calls x r (.slice sa r.sids.length sc) (.slice la r.locs.length lc) w h hn
  unfold rcV shV at *
  have Hbx := Lib.hid hbx
  have Hpl := Lib.hid hpl
  have Hct := Lib.hid hct
  clear hbx hpl hct
  clear hk
  go_enter Try.func8, Try.ntmps8
  go_wp2_with fail
  refine (in_calls _ _ _ _).mono ?_
  rintro e w1 ⟨rfl, a1⟩
  obtain ⟨b1, z1⟩ := Hbx.out _ a1
  have c0 := b1 0
  simp at c0
  have A1 := Lib.hid a1
  clear a1
  have HA1 := Lib.hid z1
  clear b1 z1
  cases h0 : inn r.kind 1 8
  · clear c0
    go_wp2_with fail
    go_ret
    exact ⟨by rw [E.out, h0]; rfl, HA1.out⟩
  · skip
    go_wp2_with fail
    refine (shapes_calls _).mono ?_
    rintro e w2 ⟨rfl, a2⟩
    have A2 := Lib.hid (Add.trans A1.out a2)
    clear a2
    have g0 : 0 ≤ r.kind := by have := inn_iff.1 h0; omega
    have g9 : r.kind < 9 := by have := inn_iff.1 h0; omega
    have k1 : 1 ≤ r.kind.toNat := by have := inn_iff.1 h0; omega
    have k8 : r.kind.toNat ≤ 8 := by omega
    have s1 := (((St.init w).alloc (.cells #[.int .i64 r.kind, str r.key, .int .i64 r.n, .int .i64 r.sid, .slice sa r.sids.length sc, .int .i64 r.colour, .slice la r.locs.length lc, .int .i64 r.tab.hot, .int .i64 r.tab.warm, .int .i64 r.tab.gap, .int .i64 r.tab.add, .int .i64 r.tab.top, .int .i64 r.tab.half] 27 (0, 0))).keep A2.out).alloc (.cells shapesA 52 (0, 0))
    simp only []
    go_at_K
    rename_i hK
    refine hK _ _ ?_
    refine Great.wpList_allocTo rfl _ rfl (.pointer (some ⟨w2.heap.size, 0, none⟩)) (.cells zerosA 52) (by kernel_rfl) ?_
    refine wpList_store_row rfl 52 (.tmp 3) (.tmp 10) rfl w2.heap.size shapesA (by kernel_rfl) (by kernel_rfl) 52 zerosA (heap_alloc_last _ _) (by kernel_rfl) (by kernel_rfl) (by kernel_rfl) (wpList_nil ?_)
    rw [World.setRow_alloc_new]
    have hx := fun j (hj : j < 7) => (s1.cell (r.kind.toNat * 7 + j)).trans (shapes_at _ j k8 hj)
    have d0 := hx 0 (by omega)
    have d1 := hx 1 (by omega)
    have d2 := hx 2 (by omega)
    have d3 := hx 3 (by omega)
    have d4 := hx 4 (by omega)
    have d5 := hx 5 (by omega)
    have d6 := hx 6 (by omega)
    have hc : ∀ w', Add ((w2.alloc (.cells shapesA 52)).alloc (.cells #[.bool (shp r.kind.toNat).key, .bool (shp r.kind.toNat).sid, .bool (shp r.kind.toNat).colour, .bool (shp r.kind.toNat).table, .int .i64 (shp r.kind.toNat).n, .int .i64 (shp r.kind.toNat).sids, .int .i64 (shp r.kind.toNat).locs] 51)) w' → (∀ i, w'.cell? ⟨w2.heap.size + 1, i, none⟩ = (#[.bool (shp r.kind.toNat).key, .bool (shp r.kind.toNat).sid, .bool (shp r.kind.toNat).colour, .bool (shp r.kind.toNat).table, .int .i64 (shp r.kind.toNat).n, .int .i64 (shp r.kind.toNat).sids, .int .i64 (shp r.kind.toNat).locs] : Array Value)[i]?) ∧ (∀ i, w'.cell? ⟨w.heap.size, i, none⟩ = (#[.int .i64 r.kind, str r.key, .int .i64 r.n, .int .i64 r.sid, .slice sa r.sids.length sc, .int .i64 r.colour, .slice la r.locs.length lc, .int .i64 r.tab.hot, .int .i64 r.tab.warm, .int .i64 r.tab.gap, .int .i64 r.tab.add, .int .i64 r.tab.top, .int .i64 r.tab.half] : Array Value)[i]?) ∧ Add w w' := fun w' a => by
      have s2 := (s1.alloc (.cells #[.bool (shp r.kind.toNat).key, .bool (shp r.kind.toNat).sid, .bool (shp r.kind.toNat).colour, .bool (shp r.kind.toNat).table, .int .i64 (shp r.kind.toNat).n, .int .i64 (shp r.kind.toNat).sids, .int .i64 (shp r.kind.toNat).locs] 51)).keep a
      rw [show (w2.alloc (.cells shapesA 52 (0, 0))).heap.size = w2.heap.size + 1 by simp] at s2
      exact ⟨fun i => s2.cell i, fun i => (s2.right.eq (sep_left_comm _ _ _)).cell i, s2.below⟩
    have c0 := (s1.eq (sep_left_comm _ _ _)).cell 0
    have rc := (hc _ (Add.refl _)).2.1
    have c1 := rc 1
    have c2 := rc 2
    have c3 := rc 3
    have c4 := rc 4
    have c5 := rc 5
    have c6 := rc 6
    have c7 := rc 7
    have c8 := rc 8
    have c9 := rc 9
    have c10 := rc 10
    have c11 := rc 11
    have c12 := rc 12
    have e0 := rc 0
    simp [shC] at d0 d1 d2 d3 d4 d5 d6
    simp at c0 c1 c2 c3 c4 c5 c6 c7 c8 c9 c10 c11 c12 e0
    have K1 := Lib.hid k1
    have K8 := Lib.hid k8
    clear hx hK rc k1 k8
    have S1 := Lib.hid s1
    have Hc := Lib.hid hc
    clear hc
    clear s1
    by_cases hsd : 0 ≤ (shp r.kind.toNat).sids
    · rw [if_pos hsd] at E
      go_wp2_with fail
      refine (Hpl.out _ K1.out K8.out _).mono ?_
      rintro e w3 ⟨rfl, a3⟩
      obtain ⟨p3, q3, z3⟩ := Hc.out _ a3
      have r4 := q3 4
      have r5 := p3 5
      simp at r4 r5
      have A3 := Lib.hid a3
      have Z3 := Lib.hid z3
      clear p3 q3 a3 z3 c0 c1 c2 c3 c4 c5 c6 c7 c8 c9 c10 c11 c12 d0 d1 d2 d3 d4 d5 d6 e0
      cases g1 : plain (shp r.kind.toNat) r
      case false =>
        go_wp2_with fail
        go_ret
        exact ⟨by rw [E.out, h0, g1]; rfl, Z3.out⟩
      by_cases hlen : r.sids.length = 3
      case neg =>
        have hlen' : ((r.sids.length : Int) != 3) = true := by rw [bne_iff_ne]; omega
        go_wp2_with fail
        go_ret
        exact ⟨by rw [E.out, h0, g1, decide_eq_false hlen]; rfl, Z3.out⟩
      have hlen' : ((r.sids.length : Int) != 3) = false := by rw [hlen]; rfl
      have Hlen := Lib.hid hlen
      clear hlen
      have q := hasI_calls _ (.func (.func 23) #[] #[.pointer (some ⟨w2.heap.size + 1, 0, none⟩)]) _ w3 (idxO_calls (w2.heap.size + 1) (fun s => !inn s (shp r.kind.toNat).sids 2147483647) _ _ w3 (HS.out.below Z3.out) fun x _ w' a => ok1_calls x _ _ w' (a.cell r5))
      have Q := Lib.hid q
      clear q
      go_wp2_with fail
      refine Q.out.mono ?_
      rintro e w4 ⟨rfl, a4⟩
      have a34 := Add.trans A3.out a4
      obtain ⟨p4, q4, z4⟩ := Hc.out _ a34
      have A4 := Lib.hid a34
      have Z4 := Lib.hid z4
      clear r4 r5 Q a4 a34 p4 q4 z4 A3 Z3
      have hna := not_any_all (fun s => inn s (shp r.kind.toNat).sids 2147483647) r.sids
      cases g2 : r.sids.any fun s => !inn s (shp r.kind.toNat).sids 2147483647
      case true =>
        rw [g2] at hna
        have Hna := Lib.hid hna
        clear hna
        go_wp2_with fail
        go_ret
        exact ⟨by rw [E.out, h0, g1, decide_eq_true Hlen.out, ← Hna.out]; rfl, Z4.out⟩
      rw [g2] at hna
      have Hna := Lib.hid hna
      clear hna
      go_wp2_with fail
      refine wp_region_rx (fun _ w' => Add ((w2.alloc (.cells shapesA 52 (0, 0))).alloc (.cells #[.bool (shp r.kind.toNat).key, .bool (shp r.kind.toNat).sid, .bool (shp r.kind.toNat).colour, .bool (shp r.kind.toNat).table, .int .i64 (shp r.kind.toNat).n, .int .i64 (shp r.kind.toNat).sids, .int .i64 (shp r.kind.toNat).locs] 51 (0, 0))) w') [] mixed (by kernel_rfl) (by kernel_rfl) (A4.out.trans (Add.drew _)) ?_
      by_cases hcl : r.locs.length = cntL (shp r.kind.toNat) r.sids
      case neg =>
        refine RXl.exact (.pointer (some ⟨w.heap.size, 6, none⟩)) rfl rfl rfl rfl rfl (fun j τ w' hj hJ => by simp [rho, upd, Spec.val, execOp, go_sem]) ?_
        refine RXl.exact (.slice la r.locs.length lc) rfl rfl rfl rfl rfl (fun j τ w' hj hJ => by have c := (Hc.out _ hJ).2.1 6; simp at c; simp [rho, upd, Spec.val, execOp, go_sem, c]) ?_
        refine RXl.exact (.int .i64 r.locs.length) rfl rfl rfl rfl rfl (fun j τ w' hj hJ => by simp [rho, upd, Spec.val, execOp, go_sem, resolve, invoke, builtin]) ?_
        refine RXl.exact (.agg #[.bool (shp r.kind.toNat).key, .bool (shp r.kind.toNat).sid, .bool (shp r.kind.toNat).colour, .bool (shp r.kind.toNat).table, .int .i64 (shp r.kind.toNat).n, .int .i64 (shp r.kind.toNat).sids, .int .i64 (shp r.kind.toNat).locs]) rfl rfl rfl rfl rfl (fun j τ w' hj hJ => by have c := (Hc.out _ hJ).1; have c0 := c 0; have c1 := c 1; have c2 := c 2; have c3 := c 3; have c4 := c 4; have c5 := c 5; have c6 := c 6; simp at c0 c1 c2 c3 c4 c5 c6; simp [rho, upd, Spec.val, execOp, go_sem, c0, c1, c2, c3, c4, c5, c6]) ?_
        refine RXl.exact (.agg #[.int .i64 r.kind, str r.key, .int .i64 r.n, .int .i64 r.sid, .slice sa r.sids.length sc, .int .i64 r.colour, .slice la r.locs.length lc, .int .i64 r.tab.hot, .int .i64 r.tab.warm, .int .i64 r.tab.gap, .int .i64 r.tab.add, .int .i64 r.tab.top, .int .i64 r.tab.half]) rfl rfl rfl rfl rfl (fun j τ w' hj hJ => by have c := (Hc.out _ hJ).2.1; have c0 := c 0; have c1 := c 1; have c2 := c 2; have c3 := c 3; have c4 := c 4; have c5 := c 5; have c6 := c 6; have c7 := c 7; have c8 := c 8; have c9 := c 9; have c10 := c 10; have c11 := c 11; have c12 := c 12; simp at c0 c1 c2 c3 c4 c5 c6 c7 c8 c9 c10 c11 c12; simp [rho, upd, Spec.val, execOp, go_sem, c0, c1, c2, c3, c4, c5, c6, c7, c8, c9, c10, c11, c12]) ?_
        refine RXl.callr (.int .i64 (cntL (shp r.kind.toNat) r.sids : Nat)) _ [.agg #[.bool (shp r.kind.toNat).key, .bool (shp r.kind.toNat).sid, .bool (shp r.kind.toNat).colour, .bool (shp r.kind.toNat).table, .int .i64 (shp r.kind.toNat).n, .int .i64 (shp r.kind.toNat).sids, .int .i64 (shp r.kind.toNat).locs], .agg #[.int .i64 r.kind, str r.key, .int .i64 r.n, .int .i64 r.sid, .slice sa r.sids.length sc, .int .i64 r.colour, .slice la r.locs.length lc, .int .i64 r.tab.hot, .int .i64 r.tab.warm, .int .i64 r.tab.gap, .int .i64 r.tab.add, .int .i64 r.tab.top, .int .i64 r.tab.half]] [.tmp 38, .tmp 39] _ rfl rfl rfl rfl rfl rfl (fun _ => rfl) (fun j τ w' hj hJ => (Hct.out _ w' (HS.out.below (Hc.out _ hJ).2.2)).mono fun _ _ h => ⟨h.1, Add.trans hJ h.2⟩) ?_
        refine RXl.exact (.bool false) rfl rfl rfl rfl rfl (fun j τ w' hj hJ => by simp [rho, upd, Spec.val, execOp, go_sem]; omega) ?_
        refine RXl.exact (.bool false) rfl rfl rfl rfl rfl (fun _ _ _ _ _ => rfl) ?_
        refine RXl.skip rfl rfl rfl rfl ?_
        refine RXl.skip rfl rfl rfl rfl ?_
        refine RXl.skip rfl rfl rfl rfl ?_
        refine RXl.skip rfl rfl rfl rfl ?_
        refine RXl.exact (.bool false) rfl rfl rfl rfl rfl (fun _ _ _ _ _ => rfl) ?_
        refine RXl.exact (.bool false) rfl rfl rfl rfl rfl (fun _ _ _ _ _ => rfl) ?_
        refine RXl.nilx _ (Agr.upd _ _ (Agr.upd _ _ (Agr.upd _ _ (Agr.upd _ _ (Agr.upd _ _ (Agr.upd _ _ (Agr.upd _ _ (Agr.upd _ _ (Agr.upd _ _ (Agr.upd _ _ (Agr.upd _ _ (Agr.upd _ _ (Agr.upd _ _ (Agr.upd _ _ (Agr.base _))))))))))))))) fun w5 hJ => ?_
        obtain ⟨_, hJ⟩ := hJ
        simp only [Act.put, List.setIfInBounds_toArray, List.set_cons_succ, List.set_cons_zero]
        have A5 := Lib.hid (Hc.out _ hJ).2.2
        clear hJ
        go_wp2_with fail
        go_ret
        exact ⟨by rw [E.out, h0, g1, decide_eq_true Hlen.out, ← Hna.out, decide_eq_false hcl]; rfl, A5.out⟩
      refine RXl.exact (.pointer (some ⟨w.heap.size, 6, none⟩)) rfl rfl rfl rfl rfl (fun j τ w' hj hJ => by simp [rho, upd, Spec.val, execOp, go_sem]) ?_
      refine RXl.exact (.slice la r.locs.length lc) rfl rfl rfl rfl rfl (fun j τ w' hj hJ => by have c := (Hc.out _ hJ).2.1 6; simp at c; simp [rho, upd, Spec.val, execOp, go_sem, c]) ?_
      refine RXl.exact (.int .i64 r.locs.length) rfl rfl rfl rfl rfl (fun j τ w' hj hJ => by simp [rho, upd, Spec.val, execOp, go_sem, resolve, invoke, builtin]) ?_
      refine RXl.exact (.agg #[.bool (shp r.kind.toNat).key, .bool (shp r.kind.toNat).sid, .bool (shp r.kind.toNat).colour, .bool (shp r.kind.toNat).table, .int .i64 (shp r.kind.toNat).n, .int .i64 (shp r.kind.toNat).sids, .int .i64 (shp r.kind.toNat).locs]) rfl rfl rfl rfl rfl (fun j τ w' hj hJ => by have c := (Hc.out _ hJ).1; have c0 := c 0; have c1 := c 1; have c2 := c 2; have c3 := c 3; have c4 := c 4; have c5 := c 5; have c6 := c 6; simp at c0 c1 c2 c3 c4 c5 c6; simp [rho, upd, Spec.val, execOp, go_sem, c0, c1, c2, c3, c4, c5, c6]) ?_
      refine RXl.exact (.agg #[.int .i64 r.kind, str r.key, .int .i64 r.n, .int .i64 r.sid, .slice sa r.sids.length sc, .int .i64 r.colour, .slice la r.locs.length lc, .int .i64 r.tab.hot, .int .i64 r.tab.warm, .int .i64 r.tab.gap, .int .i64 r.tab.add, .int .i64 r.tab.top, .int .i64 r.tab.half]) rfl rfl rfl rfl rfl (fun j τ w' hj hJ => by have c := (Hc.out _ hJ).2.1; have c0 := c 0; have c1 := c 1; have c2 := c 2; have c3 := c 3; have c4 := c 4; have c5 := c 5; have c6 := c 6; have c7 := c 7; have c8 := c 8; have c9 := c 9; have c10 := c 10; have c11 := c 11; have c12 := c 12; simp at c0 c1 c2 c3 c4 c5 c6 c7 c8 c9 c10 c11 c12; simp [rho, upd, Spec.val, execOp, go_sem, c0, c1, c2, c3, c4, c5, c6, c7, c8, c9, c10, c11, c12]) ?_
      refine RXl.callr (.int .i64 (cntL (shp r.kind.toNat) r.sids : Nat)) _ [.agg #[.bool (shp r.kind.toNat).key, .bool (shp r.kind.toNat).sid, .bool (shp r.kind.toNat).colour, .bool (shp r.kind.toNat).table, .int .i64 (shp r.kind.toNat).n, .int .i64 (shp r.kind.toNat).sids, .int .i64 (shp r.kind.toNat).locs], .agg #[.int .i64 r.kind, str r.key, .int .i64 r.n, .int .i64 r.sid, .slice sa r.sids.length sc, .int .i64 r.colour, .slice la r.locs.length lc, .int .i64 r.tab.hot, .int .i64 r.tab.warm, .int .i64 r.tab.gap, .int .i64 r.tab.add, .int .i64 r.tab.top, .int .i64 r.tab.half]] [.tmp 38, .tmp 39] _ rfl rfl rfl rfl rfl rfl (fun _ => rfl) (fun j τ w' hj hJ => (Hct.out _ w' (HS.out.below (Hc.out _ hJ).2.2)).mono fun _ _ h => ⟨h.1, Add.trans hJ h.2⟩) ?_
      refine RXl.exact (.bool true) rfl rfl rfl rfl rfl (fun j τ w' hj hJ => by simp [rho, upd, Spec.val, execOp, go_sem]; omega) ?_
      refine RXl.exact (.bool true) rfl rfl rfl rfl rfl (fun _ _ _ _ _ => rfl) ?_
      refine RXl.exact (.pointer (some ⟨w.heap.size, 6, none⟩)) rfl rfl rfl rfl rfl (fun j τ w' hj hJ => by simp [rho, upd, Spec.val, execOp, go_sem]) ?_
      refine RXl.exact (.slice la r.locs.length lc) rfl rfl rfl rfl rfl (fun j τ w' hj hJ => by have c := (Hc.out _ hJ).2.1 6; simp at c; simp [rho, upd, Spec.val, execOp, go_sem, c]) ?_
      refine RXl.callr (.bool (r.locs.any fun l => !lcOk l)) _ [.slice la r.locs.length lc, (.func (.func 26) #[] #[])] [.tmp 44, .func 26] _ rfl rfl rfl rfl rfl rfl (fun _ => rfl) (fun j τ w' hj hJ => (hasL_calls _ _ _ w' (idxL_calls (fun l => !lcOk l) _ _ w' (HL.out.below (Hc.out _ hJ).2.2) fun x _ w' _ => ok2_calls x w')).mono fun _ _ h => ⟨h.1, Add.trans hJ h.2⟩) ?_
      refine RXl.exact (.bool (r.locs.all lcOk)) rfl rfl rfl rfl rfl (fun j τ w' hj hJ => by have c := not_any_all lcOk r.locs; simp [rho, upd, Spec.val, execOp, go_sem, ← c]) ?_
      refine RXl.exact (.bool (r.locs.all lcOk)) rfl rfl rfl rfl rfl (fun _ _ _ _ _ => rfl) ?_
      refine RXl.exact (.bool (r.locs.all lcOk)) rfl rfl rfl rfl rfl (fun _ _ _ _ _ => rfl) ?_
      refine RXl.nilx _ (Agr.upd _ _ (Agr.upd _ _ (Agr.upd _ _ (Agr.upd _ _ (Agr.upd _ _ (Agr.upd _ _ (Agr.upd _ _ (Agr.upd _ _ (Agr.upd _ _ (Agr.upd _ _ (Agr.upd _ _ (Agr.upd _ _ (Agr.upd _ _ (Agr.upd _ _ (Agr.base _))))))))))))))) fun w5 hJ => ?_
      obtain ⟨_, hJ⟩ := hJ
      simp only [Act.put, List.setIfInBounds_toArray, List.set_cons_succ, List.set_cons_zero]
      have A5 := Lib.hid (Hc.out _ hJ).2.2
      have Hcl := Lib.hid hcl
      clear hJ hcl
      go_wp2_with fail
      go_ret
      exact ⟨by rw [E.out, h0, g1, decide_eq_true Hlen.out, ← Hna.out, decide_eq_true Hcl.out]; rfl, A5.out⟩
    · rw [if_neg hsd] at E
      go_wp2_with fail
      refine (Hpl.out _ K1.out K8.out _).mono ?_
      rintro e w3 ⟨rfl, a3⟩
      obtain ⟨p3, q3, z3⟩ := Hc.out _ a3
      have r4 := q3 4
      have r5 := p3 5
      simp at r4 r5
      have A3 := Lib.hid a3
      have Z3 := Lib.hid z3
      clear p3 q3 a3 z3 c0 c1 c2 c3 c4 c5 c6 c7 c8 c9 c10 c11 c12 d0 d1 d2 d3 d4 d5 d6 e0
      cases g1 : plain (shp r.kind.toNat) r
      case false =>
        go_wp2_with fail
        go_ret
        exact ⟨by rw [E.out, h0, g1]; rfl, Z3.out⟩
      by_cases hlen : r.sids.length = 0
      case neg =>
        have hlen' : ((r.sids.length : Int) != 0) = true := by rw [bne_iff_ne]; omega
        go_wp2_with fail
        go_ret
        exact ⟨by rw [E.out, h0, g1, decide_eq_false hlen]; rfl, Z3.out⟩
      have hlen' : ((r.sids.length : Int) != 0) = false := by rw [hlen]; rfl
      have Hlen := Lib.hid hlen
      clear hlen
      have q := hasI_calls _ (.func (.func 23) #[] #[.pointer (some ⟨w2.heap.size + 1, 0, none⟩)]) _ w3 (idxO_calls (w2.heap.size + 1) (fun s => !inn s (shp r.kind.toNat).sids 2147483647) _ _ w3 (HS.out.below Z3.out) fun x _ w' a => ok1_calls x _ _ w' (a.cell r5))
      have Q := Lib.hid q
      clear q
      go_wp2_with fail
      refine Q.out.mono ?_
      rintro e w4 ⟨rfl, a4⟩
      have a34 := Add.trans A3.out a4
      obtain ⟨p4, q4, z4⟩ := Hc.out _ a34
      have A4 := Lib.hid a34
      have Z4 := Lib.hid z4
      clear r4 r5 Q a4 a34 p4 q4 z4 A3 Z3
      have hna := not_any_all (fun s => inn s (shp r.kind.toNat).sids 2147483647) r.sids
      cases g2 : r.sids.any fun s => !inn s (shp r.kind.toNat).sids 2147483647
      case true =>
        rw [g2] at hna
        have Hna := Lib.hid hna
        clear hna
        go_wp2_with fail
        go_ret
        exact ⟨by rw [E.out, h0, g1, decide_eq_true Hlen.out, ← Hna.out]; rfl, Z4.out⟩
      rw [g2] at hna
      have Hna := Lib.hid hna
      clear hna
      go_wp2_with fail
      refine wp_region_rx (fun _ w' => Add ((w2.alloc (.cells shapesA 52 (0, 0))).alloc (.cells #[.bool (shp r.kind.toNat).key, .bool (shp r.kind.toNat).sid, .bool (shp r.kind.toNat).colour, .bool (shp r.kind.toNat).table, .int .i64 (shp r.kind.toNat).n, .int .i64 (shp r.kind.toNat).sids, .int .i64 (shp r.kind.toNat).locs] 51 (0, 0))) w') [] mixed (by kernel_rfl) (by kernel_rfl) (A4.out.trans (Add.drew _)) ?_
      by_cases hcl : r.locs.length = cntL (shp r.kind.toNat) r.sids
      case neg =>
        refine RXl.exact (.pointer (some ⟨w.heap.size, 6, none⟩)) rfl rfl rfl rfl rfl (fun j τ w' hj hJ => by simp [rho, upd, Spec.val, execOp, go_sem]) ?_
        refine RXl.exact (.slice la r.locs.length lc) rfl rfl rfl rfl rfl (fun j τ w' hj hJ => by have c := (Hc.out _ hJ).2.1 6; simp at c; simp [rho, upd, Spec.val, execOp, go_sem, c]) ?_
        refine RXl.exact (.int .i64 r.locs.length) rfl rfl rfl rfl rfl (fun j τ w' hj hJ => by simp [rho, upd, Spec.val, execOp, go_sem, resolve, invoke, builtin]) ?_
        refine RXl.exact (.agg #[.bool (shp r.kind.toNat).key, .bool (shp r.kind.toNat).sid, .bool (shp r.kind.toNat).colour, .bool (shp r.kind.toNat).table, .int .i64 (shp r.kind.toNat).n, .int .i64 (shp r.kind.toNat).sids, .int .i64 (shp r.kind.toNat).locs]) rfl rfl rfl rfl rfl (fun j τ w' hj hJ => by have c := (Hc.out _ hJ).1; have c0 := c 0; have c1 := c 1; have c2 := c 2; have c3 := c 3; have c4 := c 4; have c5 := c 5; have c6 := c 6; simp at c0 c1 c2 c3 c4 c5 c6; simp [rho, upd, Spec.val, execOp, go_sem, c0, c1, c2, c3, c4, c5, c6]) ?_
        refine RXl.exact (.agg #[.int .i64 r.kind, str r.key, .int .i64 r.n, .int .i64 r.sid, .slice sa r.sids.length sc, .int .i64 r.colour, .slice la r.locs.length lc, .int .i64 r.tab.hot, .int .i64 r.tab.warm, .int .i64 r.tab.gap, .int .i64 r.tab.add, .int .i64 r.tab.top, .int .i64 r.tab.half]) rfl rfl rfl rfl rfl (fun j τ w' hj hJ => by have c := (Hc.out _ hJ).2.1; have c0 := c 0; have c1 := c 1; have c2 := c 2; have c3 := c 3; have c4 := c 4; have c5 := c 5; have c6 := c 6; have c7 := c 7; have c8 := c 8; have c9 := c 9; have c10 := c 10; have c11 := c 11; have c12 := c 12; simp at c0 c1 c2 c3 c4 c5 c6 c7 c8 c9 c10 c11 c12; simp [rho, upd, Spec.val, execOp, go_sem, c0, c1, c2, c3, c4, c5, c6, c7, c8, c9, c10, c11, c12]) ?_
        refine RXl.callr (.int .i64 (cntL (shp r.kind.toNat) r.sids : Nat)) _ [.agg #[.bool (shp r.kind.toNat).key, .bool (shp r.kind.toNat).sid, .bool (shp r.kind.toNat).colour, .bool (shp r.kind.toNat).table, .int .i64 (shp r.kind.toNat).n, .int .i64 (shp r.kind.toNat).sids, .int .i64 (shp r.kind.toNat).locs], .agg #[.int .i64 r.kind, str r.key, .int .i64 r.n, .int .i64 r.sid, .slice sa r.sids.length sc, .int .i64 r.colour, .slice la r.locs.length lc, .int .i64 r.tab.hot, .int .i64 r.tab.warm, .int .i64 r.tab.gap, .int .i64 r.tab.add, .int .i64 r.tab.top, .int .i64 r.tab.half]] [.tmp 38, .tmp 39] _ rfl rfl rfl rfl rfl rfl (fun _ => rfl) (fun j τ w' hj hJ => (Hct.out _ w' (HS.out.below (Hc.out _ hJ).2.2)).mono fun _ _ h => ⟨h.1, Add.trans hJ h.2⟩) ?_
        refine RXl.exact (.bool false) rfl rfl rfl rfl rfl (fun j τ w' hj hJ => by simp [rho, upd, Spec.val, execOp, go_sem]; omega) ?_
        refine RXl.exact (.bool false) rfl rfl rfl rfl rfl (fun _ _ _ _ _ => rfl) ?_
        refine RXl.skip rfl rfl rfl rfl ?_
        refine RXl.skip rfl rfl rfl rfl ?_
        refine RXl.skip rfl rfl rfl rfl ?_
        refine RXl.skip rfl rfl rfl rfl ?_
        refine RXl.exact (.bool false) rfl rfl rfl rfl rfl (fun _ _ _ _ _ => rfl) ?_
        refine RXl.exact (.bool false) rfl rfl rfl rfl rfl (fun _ _ _ _ _ => rfl) ?_
        refine RXl.nilx _ (Agr.upd _ _ (Agr.upd _ _ (Agr.upd _ _ (Agr.upd _ _ (Agr.upd _ _ (Agr.upd _ _ (Agr.upd _ _ (Agr.upd _ _ (Agr.upd _ _ (Agr.upd _ _ (Agr.upd _ _ (Agr.upd _ _ (Agr.upd _ _ (Agr.upd _ _ (Agr.base _))))))))))))))) fun w5 hJ => ?_
        obtain ⟨_, hJ⟩ := hJ
        simp only [Act.put, List.setIfInBounds_toArray, List.set_cons_succ, List.set_cons_zero]
        have A5 := Lib.hid (Hc.out _ hJ).2.2
        clear hJ
        go_wp2_with fail
        go_ret
        exact ⟨by rw [E.out, h0, g1, decide_eq_true Hlen.out, ← Hna.out, decide_eq_false hcl]; rfl, A5.out⟩
      refine RXl.exact (.pointer (some ⟨w.heap.size, 6, none⟩)) rfl rfl rfl rfl rfl (fun j τ w' hj hJ => by simp [rho, upd, Spec.val, execOp, go_sem]) ?_
      refine RXl.exact (.slice la r.locs.length lc) rfl rfl rfl rfl rfl (fun j τ w' hj hJ => by have c := (Hc.out _ hJ).2.1 6; simp at c; simp [rho, upd, Spec.val, execOp, go_sem, c]) ?_
      refine RXl.exact (.int .i64 r.locs.length) rfl rfl rfl rfl rfl (fun j τ w' hj hJ => by simp [rho, upd, Spec.val, execOp, go_sem, resolve, invoke, builtin]) ?_
      refine RXl.exact (.agg #[.bool (shp r.kind.toNat).key, .bool (shp r.kind.toNat).sid, .bool (shp r.kind.toNat).colour, .bool (shp r.kind.toNat).table, .int .i64 (shp r.kind.toNat).n, .int .i64 (shp r.kind.toNat).sids, .int .i64 (shp r.kind.toNat).locs]) rfl rfl rfl rfl rfl (fun j τ w' hj hJ => by have c := (Hc.out _ hJ).1; have c0 := c 0; have c1 := c 1; have c2 := c 2; have c3 := c 3; have c4 := c 4; have c5 := c 5; have c6 := c 6; simp at c0 c1 c2 c3 c4 c5 c6; simp [rho, upd, Spec.val, execOp, go_sem, c0, c1, c2, c3, c4, c5, c6]) ?_
      refine RXl.exact (.agg #[.int .i64 r.kind, str r.key, .int .i64 r.n, .int .i64 r.sid, .slice sa r.sids.length sc, .int .i64 r.colour, .slice la r.locs.length lc, .int .i64 r.tab.hot, .int .i64 r.tab.warm, .int .i64 r.tab.gap, .int .i64 r.tab.add, .int .i64 r.tab.top, .int .i64 r.tab.half]) rfl rfl rfl rfl rfl (fun j τ w' hj hJ => by have c := (Hc.out _ hJ).2.1; have c0 := c 0; have c1 := c 1; have c2 := c 2; have c3 := c 3; have c4 := c 4; have c5 := c 5; have c6 := c 6; have c7 := c 7; have c8 := c 8; have c9 := c 9; have c10 := c 10; have c11 := c 11; have c12 := c 12; simp at c0 c1 c2 c3 c4 c5 c6 c7 c8 c9 c10 c11 c12; simp [rho, upd, Spec.val, execOp, go_sem, c0, c1, c2, c3, c4, c5, c6, c7, c8, c9, c10, c11, c12]) ?_
      refine RXl.callr (.int .i64 (cntL (shp r.kind.toNat) r.sids : Nat)) _ [.agg #[.bool (shp r.kind.toNat).key, .bool (shp r.kind.toNat).sid, .bool (shp r.kind.toNat).colour, .bool (shp r.kind.toNat).table, .int .i64 (shp r.kind.toNat).n, .int .i64 (shp r.kind.toNat).sids, .int .i64 (shp r.kind.toNat).locs], .agg #[.int .i64 r.kind, str r.key, .int .i64 r.n, .int .i64 r.sid, .slice sa r.sids.length sc, .int .i64 r.colour, .slice la r.locs.length lc, .int .i64 r.tab.hot, .int .i64 r.tab.warm, .int .i64 r.tab.gap, .int .i64 r.tab.add, .int .i64 r.tab.top, .int .i64 r.tab.half]] [.tmp 38, .tmp 39] _ rfl rfl rfl rfl rfl rfl (fun _ => rfl) (fun j τ w' hj hJ => (Hct.out _ w' (HS.out.below (Hc.out _ hJ).2.2)).mono fun _ _ h => ⟨h.1, Add.trans hJ h.2⟩) ?_
      refine RXl.exact (.bool true) rfl rfl rfl rfl rfl (fun j τ w' hj hJ => by simp [rho, upd, Spec.val, execOp, go_sem]; omega) ?_
      refine RXl.exact (.bool true) rfl rfl rfl rfl rfl (fun _ _ _ _ _ => rfl) ?_
      refine RXl.exact (.pointer (some ⟨w.heap.size, 6, none⟩)) rfl rfl rfl rfl rfl (fun j τ w' hj hJ => by simp [rho, upd, Spec.val, execOp, go_sem]) ?_
      refine RXl.exact (.slice la r.locs.length lc) rfl rfl rfl rfl rfl (fun j τ w' hj hJ => by have c := (Hc.out _ hJ).2.1 6; simp at c; simp [rho, upd, Spec.val, execOp, go_sem, c]) ?_
      refine RXl.callr (.bool (r.locs.any fun l => !lcOk l)) _ [.slice la r.locs.length lc, (.func (.func 26) #[] #[])] [.tmp 44, .func 26] _ rfl rfl rfl rfl rfl rfl (fun _ => rfl) (fun j τ w' hj hJ => (hasL_calls _ _ _ w' (idxL_calls (fun l => !lcOk l) _ _ w' (HL.out.below (Hc.out _ hJ).2.2) fun x _ w' _ => ok2_calls x w')).mono fun _ _ h => ⟨h.1, Add.trans hJ h.2⟩) ?_
      refine RXl.exact (.bool (r.locs.all lcOk)) rfl rfl rfl rfl rfl (fun j τ w' hj hJ => by have c := not_any_all lcOk r.locs; simp [rho, upd, Spec.val, execOp, go_sem, ← c]) ?_
      refine RXl.exact (.bool (r.locs.all lcOk)) rfl rfl rfl rfl rfl (fun _ _ _ _ _ => rfl) ?_
      refine RXl.exact (.bool (r.locs.all lcOk)) rfl rfl rfl rfl rfl (fun _ _ _ _ _ => rfl) ?_
      refine RXl.nilx _ (Agr.upd _ _ (Agr.upd _ _ (Agr.upd _ _ (Agr.upd _ _ (Agr.upd _ _ (Agr.upd _ _ (Agr.upd _ _ (Agr.upd _ _ (Agr.upd _ _ (Agr.upd _ _ (Agr.upd _ _ (Agr.upd _ _ (Agr.upd _ _ (Agr.upd _ _ (Agr.base _))))))))))))))) fun w5 hJ => ?_
      obtain ⟨_, hJ⟩ := hJ
      simp only [Act.put, List.setIfInBounds_toArray, List.set_cons_succ, List.set_cons_zero]
      have A5 := Lib.hid (Hc.out _ hJ).2.2
      have Hcl := Lib.hid hcl
      clear hJ hcl
      go_wp2_with fail
      go_ret
      exact ⟨by rw [E.out, h0, g1, decide_eq_true Hlen.out, ← Hna.out, decide_eq_true Hcl.out]; rfl, A5.out⟩
end Go.Proofs.Ytnfkcmcchkcflaa.RcW
