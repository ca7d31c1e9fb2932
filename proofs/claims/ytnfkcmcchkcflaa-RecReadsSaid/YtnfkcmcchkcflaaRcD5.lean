/- The document's records: RecBytes of what may be. No condition. -/
import Derived.Test.YtnfkcmcchkcflaaRcD2
import Derived.Test.YtnfkcmcchkcflaaRcW4
import Derived.Deep.DeepCutAuto
import Derived.Deep.CutRange
set_option linter.unusedSimpArgs false
set_option linter.unusedVariables false
namespace Go.Proofs.Ytnfkcmcchkcflaa.RcD
open Go Go.RowKit Go.Proofs.Ytnfkcmcchkcflaa Go.Proofs.Ytnfkcmcchkcflaa.Sp Go.Proofs.Ytnfkcmcchkcflaa.Reg Go.Proofs.Ytnfkcmcchkcflaa.RcM Go.Proofs.Ytnfkcmcchkcflaa.SlW Go.Proofs.Ytnfkcmcchkcflaa.RcW Go.Proofs.Ytnfkcmcchkcflaa.Rd
theorem tab_at2 (t : Tb) (n : Nat) (h : n < t.list.length) : (#[.int .i64 t.hot, .int .i64 t.warm, .int .i64 t.gap, .int .i64 t.add, .int .i64 t.top, .int .i64 t.half] : Array Value)[n]? = some (.int .i64 t.list[n]) := by
  have h6 : n < 6 := h
  obtain rfl | rfl | rfl | rfl | rfl | rfl : n = 0 ∨ n = 1 ∨ n = 2 ∨ n = 3 ∨ n = 4 ∨ n = 5 := by omega
  all_goals rfl
theorem str_add (a b : List UInt8) : Value.string ((⟨a.toArray⟩ : ByteArray) ++ ⟨b.toArray⟩) = str (a ++ b) := rfl
set_option maxRecDepth 100000 in
set_option maxHeartbeats 16000000 in
theorem recbytes_calls (r : Rc) (sv lv : Value) (w : World) (hs : IS w sv r.sids) (hl : LS w lv r.locs) (hok : rOk r = true) : Calls Try.prog 12 #[rcV r sv lv] w (RetA w (str (rBytes r))) := by
  have HS := Lib.hid hs
  have HL := Lib.hid hl
  obtain ⟨sa, sc, e1, q1, q2, q3, -⟩ := hs
  obtain ⟨la, lc, e2, p1, p2, p3, -⟩ := hl
  subst e1 e2
  unfold maxLen at q2 p2
  clear q3 p3
  have g := (good_iff r).1 hok
  have k1 := g.k0
  have k8 := g.k1
  have hE := rBytes_eq r
  have hx6 := shp_l2 r.kind.toNat
  have hxn := shp_n r.kind.toNat
  have hns : r.sids.length ≤ 3 := by have h := g.ns; split at h <;> omega
  have hnl : r.locs.length ≤ 6 := by have := cnt6 (x := shp r.kind.toNat) hns hx6; rw [g.nl]; exact this
  have hkl : r.key.length ≤ 16 := by
    cases e : (shp r.kind.toNat).key
    · rw [g.key0 e]; simp
    · have h := g.key e; simp only [keyOk, Bool.and_eq_true, decide_eq_true_eq] at h; omega
  have hbx := fun (w1 : World) (a : Add (w.alloc (.cells #[.int .i64 r.kind, str r.key, .int .i64 r.n, .int .i64 r.sid, .slice sa r.sids.length sc, .int .i64 r.colour, .slice la r.locs.length lc, .int .i64 r.tab.hot, .int .i64 r.tab.warm, .int .i64 r.tab.gap, .int .i64 r.tab.add, .int .i64 r.tab.top, .int .i64 r.tab.half] 27)) w1) => box_cells a
  obtain ⟨k, hkk⟩ : ∃ k : Nat, r.kind = (k : Int) := ⟨r.kind.toNat, by omega⟩
  have g1 : 1 ≤ k := by omega
  have g8 : k ≤ 8 := by omega
  have hkn : r.kind.toNat = k := by omega
  rw [hkn] at g hx6 hxn hE
  unfold rcV
  rw [hkk] at hE hbx ⊢
  have hsb : ∀ s ∈ r.sids, 0 ≤ s ∧ s ≤ 2147483647 := fun s hm => by
    have h1 := g.ns
    have h2 := g.sids s hm
    split at h1
    · omega
    · rw [List.eq_nil_of_length_eq_zero h1] at hm; simp at hm
  have hlb : ∀ l ∈ r.locs, (0 ≤ l.d ∧ l.d ≤ 23) ∧ (0 ≤ l.s ∧ l.s ≤ 63) ∧ 0 ≤ l.id ∧ l.id ≤ 2147483647 := fun l hm => by
    have h := g.locs l hm
    simp only [lcOk, inn, Bool.and_eq_true, decide_eq_true_eq] at h
    omega
  have hql : (shp k).locs < 0 ↔ k = 6 := by
    obtain rfl | rfl | rfl | rfl | rfl | rfl | rfl | rfl : k = 1 ∨ k = 2 ∨ k = 3 ∨ k = 4 ∨ k = 5 ∨ k = 6 ∨ k = 7 ∨ k = 8 := by omega
    all_goals simp [shp]
  have hqn := fun w => rnames_calls k g1 g8 w
  unfold nmA at hqn
  generalize shp k = xx at *
  have hb := fun (w2 : World) (a2 : Add (w.alloc (.cells #[.int .i64 (k : Int), str r.key, .int .i64 r.n, .int .i64 r.sid, .slice sa r.sids.length sc, .int .i64 r.colour, .slice la r.locs.length lc, .int .i64 r.tab.hot, .int .i64 r.tab.warm, .int .i64 r.tab.gap, .int .i64 r.tab.add, .int .i64 r.tab.top, .int .i64 r.tab.half] 27)) w2) (w' : World) (a : Add (w2.alloc (.cells #[.bool xx.key, .bool (decide (0 ≤ xx.n)), .bool xx.sid, .bool xx.colour, .bool xx.table] 61)) w') => (show (∀ i, w'.cell? ⟨w2.heap.size, i, none⟩ = (#[.bool xx.key, .bool (decide (0 ≤ xx.n)), .bool xx.sid, .bool xx.colour, .bool xx.table] : Array Value)[i]?) ∧ (∀ i, w'.cell? ⟨w.heap.size, i, none⟩ = (#[.int .i64 (k : Int), str r.key, .int .i64 r.n, .int .i64 r.sid, .slice sa r.sids.length sc, .int .i64 r.colour, .slice la r.locs.length lc, .int .i64 r.tab.hot, .int .i64 r.tab.warm, .int .i64 r.tab.gap, .int .i64 r.tab.add, .int .i64 r.tab.top, .int .i64 r.tab.half] : Array Value)[i]?) ∧ Add w w' from ⟨(box_cells a).1, hbx _ (a2.trans ((Add.alloc _ _).trans a))⟩)
  have G := Lib.hid g
  have y0 := (hbx _ (Add.refl _)).1 0
  simp at y0
  have Hb := Lib.hid hb
  have Hqn := Lib.hid hqn
  have HE := Lib.hid hE
  have Hql := Lib.hid hql
  have Hsb := Lib.hid hsb
  have Hlb := Lib.hid hlb
  have Hbx := Lib.hid hbx
  clear hb hqn hE hql hsb hlb hbx
  clear g hok hkn k1 k8
  go_enter Try.func12, Try.ntmps12
  go_wp2_with fail
  refine (Hqn.out _).mono ?_
  rintro e w2 ⟨rfl, a2⟩
  have HB := Lib.hid (Hb.out w2 a2)
  clear Hb a2 y0 Hbx
  obtain ⟨y, z⟩ := (HB.out _ (Add.refl _)).2
  have y0 := y 0
  simp at y0
  clear y z
  go_wp2_with fail
  generalize hwA : w2.alloc (.cells #[.bool xx.key, .bool (decide (0 ≤ xx.n)), .bool xx.sid, .bool xx.colour, .bool xx.table] 61) = wA at *
  refine (rone_calls k wA (by omega) (by omega)).mono ?_
  rintro e wB ⟨rfl, aB⟩
  have AB := Lib.hid aB
  clear aB y0
  have HE1 := Lib.hid hwA
  clear hwA
  generalize w2.heap.size = pn at *
  generalize w.heap.size = pr at *
  have hl1 : ([b1 r.kind] ++ kB xx r).length ≤ 18 := by
    unfold kB
    split
    · simp; omega
    · simp
  rw [hkk] at hl1
  have Hl1 := Lib.hid hl1
  clear hl1
  obtain ⟨x, y, z⟩ := HB.out _ AB.out
  clear z
  have x0 := x 0
  have x1 := x 1
  have x2 := x 2
  have x3 := x 3
  have x4 := x 4
  have y0 := y 0
  have y1 := y 1
  have y2 := y 2
  have y3 := y 3
  have y4 := y 4
  have y5 := y 5
  have y6 := y 6
  have y7 := y 7
  have y8 := y 8
  have y9 := y 9
  have y10 := y 10
  have y11 := y 11
  have y12 := y 12
  simp only [List.getElem?_toArray, List.getElem?_cons_zero, List.getElem?_cons_succ] at x0 x1 x2 x3 x4
  simp at y0 y1 y2 y3 y4 y5 y6 y7 y8 y9 y10 y11 y12
  clear x y
  go_upto_if 16 with fail
  go_cut [4] from 9 to 25 (fun v4 wx => v4 = str ([b1 (k : Int)] ++ kB xx r) ∧ Add wA wx)
  case first =>
    cases hk : xx.key
    · have HW := Lib.hid (show [b1 (k : Int)] ++ kB xx r = [b1 (k : Int)] by unfold kB; rw [hk]; simp)
      go_wp2_with fail
      go_meet
      rw [HW.out]
      exact ⟨rfl, AB.out⟩
    · have HW := Lib.hid (show [b1 (k : Int)] ++ kB xx r = [b1 (k : Int)] ++ [b1 r.key.length] ++ r.key by unfold kB; rw [hk]; simp)
      go_wp2_with fail
      refine wp_region_rx (fun _ w' => Add wA w') [] mixed (by kernel_rfl) (by kernel_rfl) (AB.out.trans (Add.drew _)) ?_
      refine RXl.exact (str [b1 (k : Int)]) rfl rfl rfl rfl rfl (fun _ _ _ _ _ => rfl) ?_
      refine RXl.exact (.pointer (some ⟨pr, 1, none⟩)) rfl rfl rfl rfl rfl (fun j τ w' hj hJ => by simp [rho, upd, Spec.val, execOp, go_sem]) ?_
      refine RXl.exact (str r.key) rfl rfl rfl rfl rfl (fun j τ w' hj hJ => by have c := (HB.out _ hJ).2.1 1; simp at c; simp [rho, upd, Spec.val, execOp, go_sem, c]) ?_
      refine RXl.exact (.int .i64 r.key.length) rfl rfl rfl rfl rfl (fun j τ w' hj hJ => by have e := len_str r.key; simp [rho, upd, Spec.val, execOp, go_sem, resolve, invoke, builtin, e]) ?_
      refine RXl.callr (str [b1 r.key.length]) _ [.int .i64 r.key.length] [.tmp 20] _ rfl rfl rfl rfl rfl rfl (fun _ => rfl) (fun j τ w' hj hJ => (rone_calls r.key.length w' (by omega) (by omega)).mono fun _ _ h => ⟨h.1, Add.trans hJ h.2⟩) ?_
      refine RXl.exact (str ([b1 (k : Int)] ++ [b1 r.key.length])) rfl rfl rfl rfl rfl (fun j τ w' hj hJ => by simp [rho, upd, Spec.val, execOp, go_sem, str]; rfl) ?_
      refine RXl.exact (.pointer (some ⟨pr, 1, none⟩)) rfl rfl rfl rfl rfl (fun j τ w' hj hJ => by simp [rho, upd, Spec.val, execOp, go_sem]) ?_
      refine RXl.exact (str r.key) rfl rfl rfl rfl rfl (fun j τ w' hj hJ => by have c := (HB.out _ hJ).2.1 1; simp at c; simp [rho, upd, Spec.val, execOp, go_sem, c]) ?_
      refine RXl.exact (str ([b1 (k : Int)] ++ [b1 r.key.length] ++ r.key)) rfl rfl rfl rfl rfl (fun j τ w' hj hJ => by simp [rho, upd, Spec.val, execOp, go_sem, str]; rw [if_neg (by omega)]; rfl) ?_
      refine RXl.exact (str ([b1 (k : Int)] ++ [b1 r.key.length] ++ r.key)) rfl rfl rfl rfl rfl (fun _ _ _ _ _ => rfl) ?_
      refine RXl.nilx _ (Agr.upd _ _ (Agr.upd _ _ (Agr.upd _ _ (Agr.upd _ _ (Agr.upd _ _ (Agr.upd _ _ (Agr.upd _ _ (Agr.upd _ _ (Agr.upd _ _ (Agr.upd _ _ (Agr.base _))))))))))) fun w8 hJ => ?_
      obtain ⟨_, hJ⟩ := hJ
      simp only [Act.put, List.setIfInBounds_toArray, List.set_cons_succ, List.set_cons_zero]
      have A8 := Lib.hid (show Add wA w8 from hJ)
      clear hJ
      go_wp2_with fail
      go_meet
      rw [HW.out]
      exact ⟨rfl, A8.out⟩
  case rest =>
  obtain ⟨rfl, ha⟩ := hcut
  obtain ⟨x, y, z⟩ := HB.out _ ha
  have A := Lib.hid ha
  clear x0 x1 x2 x3 x4 y0 y1 y2 y3 y4 y5 y6 y7 y8 y9 y10 y11 y12 z ha
  have x0 := x 0
  have x1 := x 1
  have x2 := x 2
  have x3 := x 3
  have x4 := x 4
  have y0 := y 0
  have y1 := y 1
  have y2 := y 2
  have y3 := y 3
  have y4 := y 4
  have y5 := y 5
  have y6 := y 6
  have y7 := y 7
  have y8 := y 8
  have y9 := y 9
  have y10 := y 10
  have y11 := y 11
  have y12 := y 12
  simp only [List.getElem?_toArray, List.getElem?_cons_zero, List.getElem?_cons_succ] at x0 x1 x2 x3 x4
  simp at y0 y1 y2 y3 y4 y5 y6 y7 y8 y9 y10 y11 y12
  clear x y
  generalize hc : [b1 (k : Int)] ++ kB xx r = C1 at *
  have HC1 := Lib.hid hc
  clear hc
  have hl1 := Hl1.out
  clear AB
  go_upto_if 27 with fail
  go_cut [4] from 26 to 32 (fun v4 wx => v4 = str (C1 ++ nB xx r) ∧ Add wA wx)
  case first =>
    by_cases hk : 0 ≤ xx.n
    · have HW := Lib.hid (show C1 ++ nB xx r = C1 ++ [b1 r.n] by unfold nB; rw [if_pos hk])
      have n0 := G.out.n0
      have n1 := G.out.n1
      have n2 : r.n ≤ 64 := by omega
      have hd : decide (0 ≤ xx.n) = true := decide_eq_true hk
      rw [hd]
      clear n1 hk hd
      go_wp2_with fail
      refine (rone_calls (r.n) _ (by omega) (by omega)).mono ?_
      rintro e w3 ⟨rfl, a3⟩
      have A3 := Lib.hid (Add.trans A.out a3)
      clear a3
      go_wp2_with fail
      go_meet
      rw [HW.out]
      exact ⟨rfl, A3.out⟩
    · have HW := Lib.hid (show C1 ++ nB xx r = C1 by unfold nB; rw [if_neg hk]; simp)
      have hd : decide (0 ≤ xx.n) = false := decide_eq_false hk
      rw [hd]
      clear hk hd
      go_wp2_with fail
      go_meet
      rw [HW.out]
      exact ⟨rfl, A.out⟩
  case rest =>
  have hl2 : (C1 ++ nB xx r).length ≤ 19 := by
    rw [List.length_append]
    have : (nB xx r).length ≤ 1 := by unfold nB; split <;> simp
    omega
  clear A hl1
  obtain ⟨rfl, ha⟩ := hcut
  obtain ⟨x, y, z⟩ := HB.out _ ha
  have A := Lib.hid ha
  clear x0 x1 x2 x3 x4 y0 y1 y2 y3 y4 y5 y6 y7 y8 y9 y10 y11 y12 z ha
  have x0 := x 0
  have x1 := x 1
  have x2 := x 2
  have x3 := x 3
  have x4 := x 4
  have y0 := y 0
  have y1 := y 1
  have y2 := y 2
  have y3 := y 3
  have y4 := y 4
  have y5 := y 5
  have y6 := y 6
  have y7 := y 7
  have y8 := y 8
  have y9 := y 9
  have y10 := y 10
  have y11 := y 11
  have y12 := y 12
  simp only [List.getElem?_toArray, List.getElem?_cons_zero, List.getElem?_cons_succ] at x0 x1 x2 x3 x4
  simp at y0 y1 y2 y3 y4 y5 y6 y7 y8 y9 y10 y11 y12
  clear x y
  generalize hc : C1 ++ nB xx r = C2 at *
  have HC2 := Lib.hid hc
  clear hc
  go_upto_if 34 with fail
  go_cut [4] from 33 to 39 (fun v4 wx => v4 = str (C2 ++ sB xx r) ∧ Add wA wx)
  case first =>
    cases hk : xx.sid
    · have HW := Lib.hid (show C2 ++ sB xx r = C2 by unfold sB; rw [hk]; simp)
      go_wp2_with fail
      go_meet
      rw [HW.out]
      exact ⟨rfl, A.out⟩
    · have HW := Lib.hid (show C2 ++ sB xx r = C2 ++ be4 r.sid by unfold sB; rw [hk]; simp)
      have n0 := (G.out.sid hk).1
      have n1 := (G.out.sid hk).2
      go_wp2_with fail
      refine (rfour_calls (r.sid) _ (by omega) (by omega)).mono ?_
      rintro e w3 ⟨rfl, a3⟩
      unfold be4
      have A3 := Lib.hid (Add.trans A.out a3)
      clear a3
      go_wp2_with fail
      go_meet
      rw [HW.out]
      exact ⟨rfl, A3.out⟩
  case rest =>
  have hl3 : (C2 ++ sB xx r).length ≤ 23 := by
    rw [List.length_append]
    have : (sB xx r).length ≤ 4 := by unfold sB; split <;> simp [be4]
    omega
  clear A hl2
  obtain ⟨rfl, ha⟩ := hcut
  obtain ⟨x, y, z⟩ := HB.out _ ha
  have A := Lib.hid ha
  clear x0 x1 x2 x3 x4 y0 y1 y2 y3 y4 y5 y6 y7 y8 y9 y10 y11 y12 z ha
  have x0 := x 0
  have x1 := x 1
  have x2 := x 2
  have x3 := x 3
  have x4 := x 4
  have y0 := y 0
  have y1 := y 1
  have y2 := y 2
  have y3 := y 3
  have y4 := y 4
  have y5 := y 5
  have y6 := y 6
  have y7 := y 7
  have y8 := y 8
  have y9 := y 9
  have y10 := y 10
  have y11 := y 11
  have y12 := y 12
  simp only [List.getElem?_toArray, List.getElem?_cons_zero, List.getElem?_cons_succ] at x0 x1 x2 x3 x4
  simp at y0 y1 y2 y3 y4 y5 y6 y7 y8 y9 y10 y11 y12
  clear x y
  generalize hc : C2 ++ sB xx r = C3 at *
  have HC3 := Lib.hid hc
  clear hc
  go_upto_if 41 with fail
  go_cut [4] from 40 to 46 (fun v4 wx => v4 = str (C3 ++ cB xx r) ∧ Add wA wx)
  case first =>
    cases hk : xx.colour
    · have HW := Lib.hid (show C3 ++ cB xx r = C3 by unfold cB; rw [hk]; simp)
      go_wp2_with fail
      go_meet
      rw [HW.out]
      exact ⟨rfl, A.out⟩
    · have HW := Lib.hid (show C3 ++ cB xx r = C3 ++ [b1 r.colour] by unfold cB; rw [hk]; simp)
      have n0 := (G.out.col hk).1
      have n1 := (G.out.col hk).2
      go_wp2_with fail
      refine (rone_calls (r.colour) _ (by omega) (by omega)).mono ?_
      rintro e w3 ⟨rfl, a3⟩
      have A3 := Lib.hid (Add.trans A.out a3)
      clear a3
      go_wp2_with fail
      go_meet
      rw [HW.out]
      exact ⟨rfl, A3.out⟩
  case rest =>
  have hl4 : (C3 ++ cB xx r).length ≤ 24 := by
    rw [List.length_append]
    have : (cB xx r).length ≤ 1 := by unfold cB; split <;> simp
    omega
  clear A hl3
  obtain ⟨rfl, ha⟩ := hcut
  obtain ⟨x, y, z⟩ := HB.out _ ha
  have A := Lib.hid ha
  clear x0 x1 x2 x3 x4 y0 y1 y2 y3 y4 y5 y6 y7 y8 y9 y10 y11 y12 z ha
  have x0 := x 0
  have x1 := x 1
  have x2 := x 2
  have x3 := x 3
  have x4 := x 4
  have y0 := y 0
  have y1 := y 1
  have y2 := y 2
  have y3 := y 3
  have y4 := y 4
  have y5 := y 5
  have y6 := y 6
  have y7 := y 7
  have y8 := y 8
  have y9 := y 9
  have y10 := y 10
  have y11 := y 11
  have y12 := y 12
  simp only [List.getElem?_toArray, List.getElem?_cons_zero, List.getElem?_cons_succ] at x0 x1 x2 x3 x4
  simp at y0 y1 y2 y3 y4 y5 y6 y7 y8 y9 y10 y11 y12
  clear x y
  generalize hc : C3 ++ cB xx r = C4 at *
  have HC4 := Lib.hid hc
  clear hc
  go_wp2_with fail
  go_loopw [4, 5] (fun v4 i wr => ∃ n : Nat, n ≤ r.sids.length ∧ i = .int .i64 n ∧ v4 = str (C4 ++ (r.sids.take n).flatMap be4) ∧ Add wA wr) (fun _ i => fun _ => r.sids.length - (intOf i).toNat)
  case atStart => exact ⟨0, Nat.zero_le _, rfl, by simp, A.out⟩
  case round =>
    obtain ⟨n, hn, rfl, rfl, ha⟩ := hrel
    clear A
    obtain ⟨x, y, z⟩ := HB.out _ ha
    have A := Lib.hid ha
    have Z := Lib.hid z
    clear x0 x1 x2 x3 x4 y0 y1 y2 y3 y4 y5 y6 y7 y8 y9 y10 y11 y12 z ha
    have x0 := x 0
    have x1 := x 1
    have x2 := x 2
    have x3 := x 3
    have x4 := x 4
    have y0 := y 0
    have y1 := y 1
    have y2 := y 2
    have y3 := y 3
    have y4 := y 4
    have y5 := y 5
    have y6 := y 6
    have y7 := y 7
    have y8 := y 8
    have y9 := y 9
    have y10 := y 10
    have y11 := y 11
    have y12 := y 12
    simp only [List.getElem?_toArray, List.getElem?_cons_zero, List.getElem?_cons_succ] at x0 x1 x2 x3 x4
    simp at y0 y1 y2 y3 y4 y5 y6 y7 y8 y9 y10 y11 y12
    clear x y
    by_cases hlt : n < r.sids.length
    · have hltI : (n : Int) < (r.sids.length : Int) := by omega
      have hsa : ∃ bk o1, sa = some ⟨bk, o1, none⟩ := HS.out.head (by omega)
      obtain ⟨bk, o1, rfl⟩ := hsa
      have xc := (HS.out.below Z.out).cellAt n hlt
      have hb := Hsb.out _ (List.getElem_mem hlt)
      have ht : (C4 ++ (r.sids.take n).flatMap be4) ++ be4 r.sids[n] = C4 ++ (r.sids.take (n + 1)).flatMap be4 := by rw [flat_succ _ _ _ hlt, List.append_assoc]
      have hle : (C4 ++ (r.sids.take n).flatMap be4).length ≤ 100 := by
        rw [List.length_append, flat_len (k := 4) (fun _ => rfl), List.length_take]; omega
      generalize r.sids[n] = c at *
      have Ht := Lib.hid ht
      obtain ⟨n0, n1⟩ := hb
      clear ht
      generalize C4 ++ (r.sids.take n).flatMap be4 = D at *
      go_wp2_with fail
      refine (rfour_calls c _ (by omega) (by omega)).mono ?_
      rintro e w3 ⟨rfl, a3⟩
      unfold be4
      have A3 := Lib.hid (Add.trans A.out a3)
      clear a3
      go_wp2_with fail
      go_roundw
      case rel => exact ⟨n + 1, by omega, by go_num, by rw [← Ht.out]; rfl, A3.out⟩
      case measure => simp [intOf]; omega
    · obtain rfl : n = r.sids.length := by omega
      have hnl2 : ¬ (r.sids.length : Int) < (r.sids.length : Int) := by omega
      have hl5 : (C4 ++ (r.sids.take r.sids.length).flatMap be4).length ≤ 36 := by
        rw [List.length_append, flat_len (k := 4) (fun _ => rfl), List.length_take]; omega
      generalize hC5 : C4 ++ (r.sids.take r.sids.length).flatMap be4 = C5 at *
      have HC5 := Lib.hid hC5
      clear hC5
      clear hlt hn hl4
      go_upto_if 64 with fail
      go_cut [4] from 47 to 70 (fun v4 wx => v4 = str (C5 ++ qB xx r) ∧ Add wA wx)
      case first =>
        by_cases hk : k = 6
        · have HW := Lib.hid (show C5 ++ qB xx r = C5 ++ [b1 r.locs.length] by unfold qB; rw [if_pos (Hql.out.2 hk)])
          have hk6 : ((k : Int) == 6) = true := by rw [beq_iff_eq]; omega
          clear hk
          go_wp2_with fail
          refine (rone_calls (r.locs.length) _ (by omega) (by omega)).mono ?_
          rintro e w3 ⟨rfl, a3⟩
          have A3 := Lib.hid (Add.trans A.out a3)
          clear a3
          go_wp2_with fail
          go_meet
          rw [HW.out]
          exact ⟨rfl, A3.out⟩
        · have HW := Lib.hid (show C5 ++ qB xx r = C5 by unfold qB; rw [if_neg (fun h => hk (Hql.out.1 h))]; simp)
          have hk6 : ((k : Int) == 6) = false := by rw [beq_eq_false_iff_ne]; omega
          clear hk
          go_wp2_with fail
          go_meet
          rw [HW.out]
          exact ⟨rfl, A.out⟩
      case rest =>
      have hl6 : (C5 ++ qB xx r).length ≤ 37 := by
        rw [List.length_append]
        have : (qB xx r).length ≤ 1 := by unfold qB; split <;> simp
        omega
      clear A hl5
      obtain ⟨rfl, ha⟩ := hcut
      obtain ⟨x, y, z⟩ := HB.out _ ha
      have A := Lib.hid ha
      clear x0 x1 x2 x3 x4 y0 y1 y2 y3 y4 y5 y6 y7 y8 y9 y10 y11 y12 z ha
      have x0 := x 0
      have x1 := x 1
      have x2 := x 2
      have x3 := x 3
      have x4 := x 4
      have y0 := y 0
      have y1 := y 1
      have y2 := y 2
      have y3 := y 3
      have y4 := y 4
      have y5 := y 5
      have y6 := y 6
      have y7 := y 7
      have y8 := y 8
      have y9 := y 9
      have y10 := y 10
      have y11 := y 11
      have y12 := y 12
      simp only [List.getElem?_toArray, List.getElem?_cons_zero, List.getElem?_cons_succ] at x0 x1 x2 x3 x4
      simp at y0 y1 y2 y3 y4 y5 y6 y7 y8 y9 y10 y11 y12
      clear x y
      generalize hc : C5 ++ qB xx r = C6 at *
      have HC6 := Lib.hid hc
      clear hc
      go_wp2_with fail
      go_loopw [4, 6] (fun v4 i wr => ∃ n : Nat, n ≤ r.locs.length ∧ i = .int .i64 n ∧ v4 = str (C6 ++ (r.locs.take n).flatMap lcB) ∧ Add wA wr) (fun _ i => fun _ => r.locs.length - (intOf i).toNat)
      case atStart => exact ⟨0, Nat.zero_le _, rfl, by simp, A.out⟩
      case round =>
        obtain ⟨n, hn, rfl, rfl, ha⟩ := hrel
        clear A
        obtain ⟨x, y, z⟩ := HB.out _ ha
        have A := Lib.hid ha
        have Z := Lib.hid z
        clear x0 x1 x2 x3 x4 y0 y1 y2 y3 y4 y5 y6 y7 y8 y9 y10 y11 y12 z ha
        have x0 := x 0
        have x1 := x 1
        have x2 := x 2
        have x3 := x 3
        have x4 := x 4
        have y0 := y 0
        have y1 := y 1
        have y2 := y 2
        have y3 := y 3
        have y4 := y 4
        have y5 := y 5
        have y6 := y 6
        have y7 := y 7
        have y8 := y 8
        have y9 := y 9
        have y10 := y 10
        have y11 := y 11
        have y12 := y 12
        simp only [List.getElem?_toArray, List.getElem?_cons_zero, List.getElem?_cons_succ] at x0 x1 x2 x3 x4
        simp at y0 y1 y2 y3 y4 y5 y6 y7 y8 y9 y10 y11 y12
        clear x y
        by_cases hlt : n < r.locs.length
        · have hltI : (n : Int) < (r.locs.length : Int) := by omega
          have hla : ∃ bk o1, la = some ⟨bk, o1, none⟩ := HL.out.head (by omega)
          obtain ⟨bk, o1, rfl⟩ := hla
          have hcell := fun (w' : World) (a : Add wA w') => (HL.out.below (HB.out _ a).2.2).cellsAt n hlt
          have hb := Hlb.out _ (List.getElem_mem hlt)
          have ht : (C6 ++ (r.locs.take n).flatMap lcB) ++ lcB r.locs[n] = C6 ++ (r.locs.take (n + 1)).flatMap lcB := by rw [flat_succ _ _ _ hlt, List.append_assoc]
          have hle : (C6 ++ (r.locs.take n).flatMap lcB).length ≤ 100 := by
            rw [List.length_append, flat_len (k := 6) (fun _ => rfl), List.length_take]; omega
          generalize r.locs[n] = c at *
          have Ht := Lib.hid ht
          have HCL := Lib.hid hcell
          obtain ⟨⟨m1, m2⟩, ⟨m3, m4⟩, m5, m6⟩ := hb
          clear ht hcell
          generalize C6 ++ (r.locs.take n).flatMap lcB = D at *
          have hlI : (n : Int) < (lc : Int) := by omega
          obtain ⟨D1, hD1⟩ : ∃ D1, D1 = D ++ [b1 c.d] := ⟨_, rfl⟩
          obtain ⟨D2, hD2⟩ : ∃ D2, D2 = D1 ++ [b1 c.s] := ⟨_, rfl⟩
          have hle1 : D1.length ≤ 101 := by rw [hD1, List.length_append, List.length_singleton]; omega
          have hle2 : D2.length ≤ 102 := by rw [hD2, List.length_append, List.length_singleton]; omega
          have HD1 := Lib.hid hD1
          have HD2 := Lib.hid hD2
          clear hD1 hD2
          go_wp2_with fail
          refine wp_region_rx (fun _ w' => Add wA w') [] mixed (by kernel_rfl) (by kernel_rfl) (A.out.trans (Add.drew _)) ?_
          refine RXl.exact (str D) rfl rfl rfl rfl rfl (fun _ _ _ _ _ => rfl) ?_
          refine RXl.exact (.pointer (some ⟨pr, 6, none⟩)) rfl rfl rfl rfl rfl (fun j τ w' hj hJ => by simp [rho, upd, Spec.val, execOp, go_sem]) ?_
          refine RXl.exact (.slice (some ⟨bk, o1, none⟩) r.locs.length lc) rfl rfl rfl rfl rfl (fun j τ w' hj hJ => by have c := (HB.out _ hJ).2.1 6; simp at c; simp [rho, upd, Spec.val, execOp, go_sem, c]) ?_
          refine RXl.exact (.int .i64 n) rfl rfl rfl rfl rfl (fun _ _ _ _ _ => rfl) ?_
          refine RXl.exact (.pointer (some ⟨bk, o1 + n * 3, none⟩)) rfl rfl rfl rfl rfl (fun j τ w' hj hJ => by simp [rho, upd, Spec.val, execOp, go_sem, hlI, hltI]) ?_
          refine RXl.exact (.pointer (some ⟨bk, o1 + n * 3, none⟩)) rfl rfl rfl rfl rfl (fun j τ w' hj hJ => by simp [rho, upd, Spec.val, execOp, go_sem]) ?_
          refine RXl.exact (.int .i64 c.d) rfl rfl rfl rfl rfl (fun j τ w' hj hJ => by have c := (HCL.out _ hJ).1; simp [rho, upd, Spec.val, execOp, go_sem, c]) ?_
          refine RXl.callr (str [b1 c.d]) _ [.int .i64 c.d] [.tmp 84] _ rfl rfl rfl rfl rfl rfl (fun _ => rfl) (fun j τ w' hj hJ => (rone_calls c.d w' (by omega) (by omega)).mono fun _ _ h => ⟨h.1, Add.trans hJ h.2⟩) ?_
          refine RXl.exact (str D1) rfl rfl rfl rfl rfl (fun j τ w' hj hJ => by simp [rho, upd, Spec.val, execOp, go_sem, str]; rw [if_neg (by omega), HD1.out]; rfl) ?_
          refine RXl.exact (.pointer (some ⟨pr, 6, none⟩)) rfl rfl rfl rfl rfl (fun j τ w' hj hJ => by simp [rho, upd, Spec.val, execOp, go_sem]) ?_
          refine RXl.exact (.slice (some ⟨bk, o1, none⟩) r.locs.length lc) rfl rfl rfl rfl rfl (fun j τ w' hj hJ => by have c := (HB.out _ hJ).2.1 6; simp at c; simp [rho, upd, Spec.val, execOp, go_sem, c]) ?_
          refine RXl.exact (.int .i64 n) rfl rfl rfl rfl rfl (fun _ _ _ _ _ => rfl) ?_
          refine RXl.exact (.pointer (some ⟨bk, o1 + n * 3, none⟩)) rfl rfl rfl rfl rfl (fun j τ w' hj hJ => by simp [rho, upd, Spec.val, execOp, go_sem, hlI, hltI]) ?_
          refine RXl.exact (.pointer (some ⟨bk, o1 + n * 3 + 1, none⟩)) rfl rfl rfl rfl rfl (fun j τ w' hj hJ => by simp [rho, upd, Spec.val, execOp, go_sem]) ?_
          refine RXl.exact (.int .i64 c.s) rfl rfl rfl rfl rfl (fun j τ w' hj hJ => by have c := (HCL.out _ hJ).2.1; simp [rho, upd, Spec.val, execOp, go_sem, c]) ?_
          refine RXl.callr (str [b1 c.s]) _ [.int .i64 c.s] [.tmp 92] _ rfl rfl rfl rfl rfl rfl (fun _ => rfl) (fun j τ w' hj hJ => (rone_calls c.s w' (by omega) (by omega)).mono fun _ _ h => ⟨h.1, Add.trans hJ h.2⟩) ?_
          refine RXl.exact (str D2) rfl rfl rfl rfl rfl (fun j τ w' hj hJ => by simp [rho, upd, Spec.val, execOp, go_sem, str]; rw [if_neg (by omega), HD2.out]; rfl) ?_
          refine RXl.exact (.pointer (some ⟨pr, 6, none⟩)) rfl rfl rfl rfl rfl (fun j τ w' hj hJ => by simp [rho, upd, Spec.val, execOp, go_sem]) ?_
          refine RXl.exact (.slice (some ⟨bk, o1, none⟩) r.locs.length lc) rfl rfl rfl rfl rfl (fun j τ w' hj hJ => by have c := (HB.out _ hJ).2.1 6; simp at c; simp [rho, upd, Spec.val, execOp, go_sem, c]) ?_
          refine RXl.exact (.int .i64 n) rfl rfl rfl rfl rfl (fun _ _ _ _ _ => rfl) ?_
          refine RXl.exact (.pointer (some ⟨bk, o1 + n * 3, none⟩)) rfl rfl rfl rfl rfl (fun j τ w' hj hJ => by simp [rho, upd, Spec.val, execOp, go_sem, hlI, hltI]) ?_
          refine RXl.exact (.pointer (some ⟨bk, o1 + n * 3 + 2, none⟩)) rfl rfl rfl rfl rfl (fun j τ w' hj hJ => by simp [rho, upd, Spec.val, execOp, go_sem]) ?_
          refine RXl.exact (.int .i64 c.id) rfl rfl rfl rfl rfl (fun j τ w' hj hJ => by have c := (HCL.out _ hJ).2.2; simp [rho, upd, Spec.val, execOp, go_sem, c]) ?_
          refine RXl.callr (str (be4 c.id)) _ [.int .i64 c.id] [.tmp 100] _ rfl rfl rfl rfl rfl rfl (fun _ => rfl) (fun j τ w' hj hJ => (rfour_calls c.id w' (by omega) (by omega)).mono fun _ _ h => ⟨h.1, Add.trans hJ h.2⟩) ?_
          refine RXl.exact (str (D2 ++ be4 c.id)) rfl rfl rfl rfl rfl (fun j τ w' hj hJ => by simp [rho, upd, Spec.val, execOp, go_sem, str, be4]; rw [if_neg (by omega)]; rfl) ?_
          refine RXl.exact (str (D2 ++ be4 c.id)) rfl rfl rfl rfl rfl (fun _ _ _ _ _ => rfl) ?_
          refine RXl.nilx _ (Agr.upd _ _ (Agr.upd _ _ (Agr.upd _ _ (Agr.upd _ _ (Agr.upd _ _ (Agr.upd _ _ (Agr.upd _ _ (Agr.upd _ _ (Agr.upd _ _ (Agr.upd _ _ (Agr.upd _ _ (Agr.upd _ _ (Agr.upd _ _ (Agr.upd _ _ (Agr.upd _ _ (Agr.upd _ _ (Agr.upd _ _ (Agr.upd _ _ (Agr.upd _ _ (Agr.upd _ _ (Agr.upd _ _ (Agr.upd _ _ (Agr.upd _ _ (Agr.upd _ _ (Agr.upd _ _ (Agr.upd _ _ (Agr.base _))))))))))))))))))))))))))) fun w8 hJ => ?_
          obtain ⟨_, hJ⟩ := hJ
          simp only [Act.put, List.setIfInBounds_toArray, List.set_cons_succ, List.set_cons_zero]
          have A8 := Lib.hid (show Add wA w8 from hJ)
          rw [show D2 ++ be4 c.id = D ++ lcB c by rw [HD2.out, HD1.out]; simp [lcB]]
          clear hJ
          go_wp2_with fail
          go_roundw
          case rel => exact ⟨n + 1, by omega, by go_num, by rw [← Ht.out], A8.out⟩
          case measure => simp [intOf]; omega
        · obtain rfl : n = r.locs.length := by omega
          have hnl3 : ¬ (r.locs.length : Int) < (r.locs.length : Int) := by omega
          have hl7 : (C6 ++ (r.locs.take r.locs.length).flatMap lcB).length ≤ 73 := by
            rw [List.length_append, flat_len (k := 6) (fun _ => rfl), List.length_take]; omega
          have HEND := Lib.hid (show ∀ D, C6 ++ (r.locs.take r.locs.length).flatMap lcB = D → rBytes r = D ++ RcM.tB xx r from fun D hD => by
            rw [HE.out, ← hD, List.take_length, ← HC6.out, ← HC5.out, ← HC4.out, ← HC3.out, ← HC2.out, ← HC1.out, List.take_length]
            simp only [List.append_assoc, List.cons_append, List.nil_append])
          generalize C6 ++ (r.locs.take r.locs.length).flatMap lcB = C7 at *
          have HE2 := Lib.hid (HEND.out C7 rfl)
          clear HEND hlt hn hl6
          cases hk : xx.table
          · have HW := Lib.hid (show rBytes r = C7 by rw [HE2.out]; unfold RcM.tB; rw [hk]; simp)
            go_wp2_with fail
            go_ret
            rw [HW.out]
            exact ⟨rfl, Z.out⟩
          · have HW := Lib.hid (show rBytes r = C7 ++ r.tab.list.flatMap be4 by rw [HE2.out]; unfold RcM.tB; rw [hk]; simp)
            have htb := G.out.tab hk
            have Htb := Lib.hid htb
            clear htb
            have Q := Lib.hid (rtables_calls r.tab wr)
            unfold tbV tbA at Q
            go_wp2_with fail
            refine Q.out.mono ?_
            rintro e w5 ⟨rfl, a5⟩
            have hbx2 := fun (w' : World) (a : Add (w5.alloc (.cells #[.int .i64 r.tab.hot, .int .i64 r.tab.warm, .int .i64 r.tab.gap, .int .i64 r.tab.add, .int .i64 r.tab.top, .int .i64 r.tab.half] 66)) w') => (show (∀ n (h : n < r.tab.list.length), w'.cell? ⟨w5.heap.size, n, none⟩ = some (.int .i64 r.tab.list[n])) ∧ Add w w' from ⟨fun n h => ((box_cells a).1 n).trans (tab_at2 r.tab n h), (HB.out _ (A.out.trans (a5.trans ((Add.alloc _ _).trans a)))).2.2⟩)
            have HX := Lib.hid hbx2
            clear hbx2 a5 Q x0 x1 x2 x3 x4 y0 y1 y2 y3 y4 y5 y6 y7 y8 y9 y10 y11 y12
            go_wp2_with fail
            go_loopw [4, 8] (fun v4 i wr => ∃ n : Nat, n ≤ 6 ∧ i = .int .i64 n ∧ v4 = str (C7 ++ (r.tab.list.take n).flatMap be4) ∧ Add (w5.alloc (.cells #[.int .i64 r.tab.hot, .int .i64 r.tab.warm, .int .i64 r.tab.gap, .int .i64 r.tab.add, .int .i64 r.tab.top, .int .i64 r.tab.half] 66)) wr) (fun _ i => fun _ => 6 - (intOf i).toNat)
            case atStart => exact ⟨0, Nat.zero_le _, rfl, by simp, Add.refl _⟩
            case round =>
              obtain ⟨n, hn, rfl, rfl, ha⟩ := hrel
              have hlen6 : r.tab.list.length = 6 := rfl
              by_cases hlt : n < 6
              · have hltI : (n : Int) < 6 := by omega
                have hlt' : n < r.tab.list.length := hlt
                obtain ⟨x, z⟩ := HX.out _ ha
                have x0 := x n hlt'
                have hb := Htb.out _ (List.getElem_mem hlt')
                have ht : (C7 ++ (r.tab.list.take n).flatMap be4) ++ be4 r.tab.list[n] = C7 ++ (r.tab.list.take (n + 1)).flatMap be4 := by rw [flat_succ _ _ _ hlt', List.append_assoc]
                have hle : (C7 ++ (r.tab.list.take n).flatMap be4).length ≤ 100 := by
                  rw [List.length_append, flat_len (k := 4) (fun _ => rfl), List.length_take]; omega
                generalize r.tab.list[n] = c at *
                have Ht := Lib.hid ht
                have HA := Lib.hid ha
                obtain ⟨n0, n1⟩ := hb
                clear ht ha x z hlt' hlen6
                generalize C7 ++ (r.tab.list.take n).flatMap be4 = D at *
                go_wp2_with fail
                refine (rfour_calls c _ (by omega) (by omega)).mono ?_
                rintro e w6 ⟨rfl, a6⟩
                unfold be4
                have A6 := Lib.hid (Add.trans HA.out a6)
                clear a6 x0
                go_wp2_with fail
                go_roundw
                case rel => exact ⟨n + 1, by omega, by go_num, by rw [← Ht.out]; rfl, A6.out⟩
                case measure => simp [intOf]; omega
              · have hn6 : n = 6 := by omega
                have hf : (r.tab.list.take n).flatMap be4 = r.tab.list.flatMap be4 := by rw [hn6, ← hlen6, List.take_length]
                rw [hf]
                have hnl4 : ¬ (n : Int) < 6 := by omega
                have Z6 := Lib.hid (HX.out _ ha).2
                clear hf hn6 hlt hlen6 hn ha
                go_wp2_with fail
                go_ret
                rw [HW.out]
                exact ⟨rfl, Z6.out⟩
end Go.Proofs.Ytnfkcmcchkcflaa.RcD
