/- The document's records: RecOk. No condition. -/
import Derived.Test.YtnfkcmcchkcflaaRcD3
import Derived.Deep.DeepCutAuto
import Derived.Deep.CutRange
set_option linter.unusedSimpArgs false
set_option linter.unusedVariables false
namespace Go.Proofs.Ytnfkcmcchkcflaa.RcD
open Go Go.RowKit Go.Proofs.Ytnfkcmcchkcflaa Go.Proofs.Ytnfkcmcchkcflaa.Sp Go.Proofs.Ytnfkcmcchkcflaa.Reg Go.Proofs.Ytnfkcmcchkcflaa.RcM Go.Proofs.Ytnfkcmcchkcflaa.SlW Go.Proofs.Ytnfkcmcchkcflaa.RcW Go.Proofs.Ytnfkcmcchkcflaa.Rd
/-- What the fields must be that a kind does not name, and the key. -/
structure GK1 (x : Sh) (r : Rc) : Prop where
  key : x.key = true → keyOk r.key = true
  key0 : x.key = false → r.key = []
  n0 : x.n < 0 → r.n = 0
  sid0 : x.sid = false → r.sid = 0
  col0 : x.colour = false → r.colour = 0
  tab0 : x.table = false → r.tab = Tb.zero
theorem good_gk1 {x : Sh} {r : Rc} (g : RcM.Good x r) : GK1 x r :=
  ⟨g.key, g.key0, fun h => by have := g.n0; have := g.n1; omega, g.sid0, g.col0, g.tab0⟩
theorem tb_zero_iff {t : Tb} : t = Tb.zero ↔ t.hot = 0 ∧ t.warm = 0 ∧ t.gap = 0 ∧ t.add = 0 ∧ t.top = 0 ∧ t.half = 0 := by
  obtain ⟨a, b, c, d, e, f⟩ := t
  simp [Tb.zero]
theorem gk_bad {x : Sh} {r : Rc} (h : rOk r = true ↔ RcM.Good x r) (h2 : GK1 x r → False) : rOk r = false := by
  rw [Bool.eq_false_iff]
  intro h3
  exact h2 (good_gk1 (h.1 h3))
/-- What the numbers must be. -/
structure GK2 (x : Sh) (r : Rc) : Prop where
  n : 0 ≤ x.n → 0 ≤ r.n ∧ r.n ≤ x.n
  sid : x.sid = true → 1 ≤ r.sid ∧ r.sid ≤ 2147483647
  col : 0 ≤ r.colour ∧ r.colour ≤ 2
theorem good_gk2 {x : Sh} {r : Rc} (g : RcM.Good x r) : GK2 x r :=
  ⟨fun h => by have := g.n0; have := g.n1; omega, g.sid, by
    cases e : x.colour
    · have := g.col0 e; omega
    · exact g.col e⟩
theorem gk2_bad {x : Sh} {r : Rc} (h : rOk r = true ↔ RcM.Good x r) (h2 : GK2 x r → False) : rOk r = false := by
  rw [Bool.eq_false_iff]
  intro h3
  exact h2 (good_gk2 (h.1 h3))
/-- Two for each of the first n Sids that is no nought. -/
def cntS (l : List Int) (n : Nat) : Nat := 2 * ((l.take n).filter fun s => decide (s ≠ 0)).length
theorem cntS_succ (l : List Int) (n : Nat) (hn : n < l.length) : cntS l (n + 1) = cntS l n + if l[n] = 0 then 0 else 2 := by
  unfold cntS
  rw [List.take_succ_eq_append_getElem hn, List.filter_append, List.length_append]
  by_cases h : l[n] = 0
  · simp [h]
  · simp [h]; omega
theorem cntS_le (l : List Int) (n : Nat) : cntS l n ≤ 2 * l.length := by
  unfold cntS
  have := List.length_filter_le (fun s : Int => decide (s ≠ 0)) (l.take n)
  have h2 : (l.take n).length ≤ l.length := by rw [List.length_take]; omega
  omega
theorem nl_six {k : Nat} {r : Rc} (h6 : k = 6) (h : (r.locs.length : Int) = (cntS r.sids r.sids.length : Nat)) : r.locs.length = cntL (shp k) r.sids := by
  subst h6
  unfold cntL
  rw [if_neg (by simp [shp])]
  unfold cntS at h
  rw [List.take_length] at h
  omega
theorem nl_six' {k : Nat} {r : Rc} (h6 : k = 6) (h : r.locs.length = cntL (shp k) r.sids) : (r.locs.length : Int) = (cntS r.sids r.sids.length : Nat) := by
  subst h6
  unfold cntL at h
  rw [if_neg (by simp [shp])] at h
  unfold cntS
  rw [List.take_length]
  omega
theorem nl_oth {k : Nat} {r : Rc} (h : (r.locs.length : Int) = (shp k).locs) : r.locs.length = cntL (shp k) r.sids := by
  unfold cntL
  rw [if_pos (by omega)]
  omega
theorem nl_oth' {k : Nat} {r : Rc} (g1 : 1 ≤ k) (g8 : k ≤ 8) (h6 : ¬ k = 6) (h : r.locs.length = cntL (shp k) r.sids) : (r.locs.length : Int) = (shp k).locs := by
  have h0 : 0 ≤ (shp k).locs := by
    obtain rfl | rfl | rfl | rfl | rfl | rfl | rfl : k = 1 ∨ k = 2 ∨ k = 3 ∨ k = 4 ∨ k = 5 ∨ k = 7 ∨ k = 8 := by omega
    all_goals simp [shp]
  unfold cntL at h
  rw [if_pos h0] at h
  omega
/-- Sids that are there are 1 or more, but in a split. -/
theorem oth_sids {k : Nat} {r : Rc} (g1 : 1 ≤ k) (g8 : k ≤ 8) (h6 : ¬ k = 6) (hns : (r.sids.length : Int) = dSids (shp k)) : r.sids ≠ [] → (shp k).sids = 1 := by
  intro hne
  obtain rfl | rfl | rfl | rfl | rfl | rfl | rfl : k = 1 ∨ k = 2 ∨ k = 3 ∨ k = 4 ∨ k = 5 ∨ k = 7 ∨ k = 8 := by omega
  all_goals
    simp only [shp, dSids] at hns ⊢
    try (exfalso; exact hne (by simpa using hns))
theorem ns_of {x : Sh} {r : Rc} (h : (r.sids.length : Int) = dSids x) : r.sids.length = if 0 ≤ x.sids then 3 else 0 := by
  unfold dSids at h
  split at h <;> rename_i h1 <;> simp only [h1, if_true, if_false] <;> omega
theorem tab_ok {x : Sh} {r : Rc} (g : RcM.Good x r) : ∀ n ∈ r.tab.list, 0 ≤ n ∧ n ≤ 1000000 := by
  cases e : x.table
  · have h := g.tab0 e
    rw [h]
    simp [Tb.list, Tb.zero]
  · exact g.tab e
theorem good_of {x : Sh} {r : Rc} (k0 : 1 ≤ r.kind) (k1 : r.kind ≤ 8) (a : GK1 x r) (b : GK2 x r) (hs : (r.sids.length : Int) = dSids x) (h1 : ∀ s ∈ r.sids, x.sids ≤ s ∧ s ≤ 2147483647) (h2 : r.locs.length = cntL x r.sids)
    (h3 : ∀ l ∈ r.locs, lcOk l = true) (h4 : ∀ n ∈ r.tab.list, 0 ≤ n ∧ n ≤ 1000000) : RcM.Good x r where
  k0 := k0
  k1 := k1
  key := a.key
  key0 := a.key0
  sid := b.sid
  sid0 := a.sid0
  n0 := by
    by_cases h : 0 ≤ x.n
    · exact (b.n h).1
    · rw [a.n0 (by omega)]; exact Int.le_refl _
  n1 := by
    by_cases h : 0 ≤ x.n
    · have := (b.n h).2; omega
    · rw [a.n0 (by omega)]; omega
  col := fun _ => b.col
  col0 := a.col0
  tab := fun _ => h4
  tab0 := a.tab0
  ns := ns_of hs
  sids := h1
  nl := h2
  locs := h3
theorem tab_at (t : Tb) (n : Nat) (h : n < t.list.length) : (#[.int .i64 t.hot, .int .i64 t.warm, .int .i64 t.gap, .int .i64 t.add, .int .i64 t.top, .int .i64 t.half] : Array Value)[n]? = some (.int .i64 t.list[n]) := by
  have h6 : n < 6 := h
  obtain rfl | rfl | rfl | rfl | rfl | rfl : n = 0 ∨ n = 1 ∨ n = 2 ∨ n = 3 ∨ n = 4 ∨ n = 5 := by omega
  all_goals rfl
theorem g_bad {x : Sh} {r : Rc} (h : rOk r = true ↔ RcM.Good x r) (h2 : RcM.Good x r → False) : rOk r = false := by
  rw [Bool.eq_false_iff]
  intro h3
  exact h2 (h.1 h3)
set_option maxRecDepth 100000 in
set_option maxHeartbeats 16000000 in
theorem recok_calls (r : Rc) (sv lv : Value) (w : World) (hs : IS w sv r.sids) (hl : LS w lv r.locs) (hk : r.key.length ≤ maxLen) : Calls Try.prog 11 #[rcV r sv lv] w (RetA w (.bool (rOk r))) := by
  have HS := Lib.hid hs
  have HL := Lib.hid hl
  obtain ⟨sa, sc, e1, q1, q2, q3, -⟩ := hs
  obtain ⟨la, lc, e2, p1, p2, p3, -⟩ := hl
  subst e1 e2
  unfold maxLen at q2 p2
  clear q3 p3
  have hbx := fun (w1 : World) (a : Add (w.alloc (.cells #[.int .i64 r.kind, str r.key, .int .i64 r.n, .int .i64 r.sid, .slice sa r.sids.length sc, .int .i64 r.colour, .slice la r.locs.length lc, .int .i64 r.tab.hot, .int .i64 r.tab.warm, .int .i64 r.tab.gap, .int .i64 r.tab.add, .int .i64 r.tab.top, .int .i64 r.tab.half] 27)) w1) => box_cells a
  have hky := fun (w : World) => rkeyok_calls r.key hk w
  unfold rcV at *
  have Hbx := Lib.hid hbx
  have Hky := Lib.hid hky
  clear hbx hky
  clear hk
  go_enter Try.func11, Try.ntmps11
  go_wp2_with fail
  refine (rin_calls _ _ _ _).mono ?_
  rintro e w1 ⟨rfl, a1⟩
  obtain ⟨b1, z1⟩ := Hbx.out _ a1
  have c0 := b1 0
  simp at c0
  have A1 := Lib.hid a1
  clear a1
  have HA1 := Lib.hid z1
  clear b1 z1
  cases h0 : inn r.kind 1 8
  · have E := Lib.hid (show rOk r = false by unfold rOk; rw [h0]; rfl)
    clear c0
    go_wp2_with fail
    go_ret
    rw [E.out]
    exact ⟨rfl, HA1.out⟩
  · have k1 := (inn_iff.1 h0).1
    have k8 := (inn_iff.1 h0).2
    obtain ⟨k, hkk⟩ : ∃ k : Nat, r.kind = (k : Int) := ⟨r.kind.toNat, by omega⟩
    have g1 : 1 ≤ k := by omega
    have g8 : k ≤ 8 := by omega
    have HK := Lib.hid hkk
    rw [hkk] at c0
    clear h0 k1 k8 hkk
    go_wp2_with fail
    refine (rnames_calls k g1 g8 _).mono ?_
    rintro e w2 ⟨rfl, a2⟩
    have A2 := Lib.hid (Add.trans A1.out a2)
    clear a2
    unfold nmA
    have hb := fun (w' : World) (a : Add (w2.alloc (.cells #[.bool (shp k).key, .bool (decide (0 ≤ (shp k).n)), .bool (shp k).sid, .bool (shp k).colour, .bool (shp k).table] 61)) w') => (show (∀ i, w'.cell? ⟨w2.heap.size, i, none⟩ = (#[.bool (shp k).key, .bool (decide (0 ≤ (shp k).n)), .bool (shp k).sid, .bool (shp k).colour, .bool (shp k).table] : Array Value)[i]?) ∧ (∀ i, w'.cell? ⟨w.heap.size, i, none⟩ = (#[.int .i64 r.kind, str r.key, .int .i64 r.n, .int .i64 r.sid, .slice sa r.sids.length sc, .int .i64 r.colour, .slice la r.locs.length lc, .int .i64 r.tab.hot, .int .i64 r.tab.warm, .int .i64 r.tab.gap, .int .i64 r.tab.add, .int .i64 r.tab.top, .int .i64 r.tab.half] : Array Value)[i]?) ∧ Add w w' from ⟨(box_cells a).1, Hbx.out _ (A2.out.trans ((Add.alloc _ _).trans a))⟩)
    have Hb := Lib.hid hb
    clear hb
    have HG := Lib.hid (good_iff r)
    rw [HK.out, Int.toNat_natCast] at HG
    generalize Value.agg #[.int .i64 r.kind, str r.key, .int .i64 r.n, .int .i64 r.sid, .slice sa r.sids.length sc, .int .i64 r.colour, .slice la r.locs.length lc, .int .i64 r.tab.hot, .int .i64 r.tab.warm, .int .i64 r.tab.gap, .int .i64 r.tab.add, .int .i64 r.tab.top, .int .i64 r.tab.half] = vr
    go_upto_region 4 with fail
    go_cut [77] from 12 to 76 (fun v77 wx => ∃ b : Bool, v77 = .bool b ∧ (b = true → rOk r = false) ∧ (b = false → GK1 (shp k) r) ∧ Add (w2.alloc (.cells #[.bool (shp k).key, .bool (decide (0 ≤ (shp k).n)), .bool (shp k).sid, .bool (shp k).colour, .bool (shp k).table] 61)) wx)
    case first =>
      obtain ⟨x, y, z⟩ := Hb.out _ (Add.refl _)
      have x0 := x 0
      have x1 := x 1
      have x2 := x 2
      have x3 := x 3
      have x4 := x 4
      have y0 := y 0
      have y1 := y 1
      have y2 := y 2
      have y3 := y 3
      have y5 := y 5
      have y7 := y 7
      have y8 := y 8
      have y9 := y 9
      have y10 := y 10
      have y11 := y 11
      have y12 := y 12
      simp only [List.getElem?_toArray, List.getElem?_cons_zero, List.getElem?_cons_succ] at x0 x1 x2 x3 x4
      simp at y0 y1 y2 y3 y5 y7 y8 y9 y10 y11 y12
      clear x y
      generalize w2.alloc (.cells #[.bool (shp k).key, .bool (decide (0 ≤ (shp k).n)), .bool (shp k).sid, .bool (shp k).colour, .bool (shp k).table] 61) = wA at *
      obtain rfl | rfl | rfl | rfl | rfl | rfl | rfl | rfl : k = 1 ∨ k = 2 ∨ k = 3 ∨ k = 4 ∨ k = 5 ∨ k = 6 ∨ k = 7 ∨ k = 8 := by omega
      · skip
        simp only [shp] at *
        go_wp2_with fail
        refine (Hky.out _).mono ?_
        rintro e w3 ⟨rfl, a3⟩
        obtain ⟨x, y, z⟩ := Hb.out _ a3
        clear x0 x1 x2 x3 x4 y0 y1 y2 y3 y5 y7 y8 y9 y10 y11 y12
        have A3 := Lib.hid a3
        clear a3 z
        have x0 := x 0
        have x1 := x 1
        have x2 := x 2
        have x3 := x 3
        have x4 := x 4
        have y0 := y 0
        have y1 := y 1
        have y2 := y 2
        have y3 := y 3
        have y5 := y 5
        have y7 := y 7
        have y8 := y 8
        have y9 := y 9
        have y10 := y 10
        have y11 := y 11
        have y12 := y 12
        simp only [List.getElem?_toArray, List.getElem?_cons_zero, List.getElem?_cons_succ] at x0 x1 x2 x3 x4
        simp at y0 y1 y2 y3 y5 y7 y8 y9 y10 y11 y12
        clear x y
        cases e1 : keyOk r.key
        all_goals
          go_wp2_with fail
        all_goals
          clear x0 x1 x2 x3 x4 y0 y1 y2 y3 y5 y7 y8 y9 y10 y11 y12
          go_meet
          first
            | exact ⟨true, rfl, (fun _ => gk_bad HG.out fun g => by (have k1 := g.key; have k2 := g.key0; have k3 := g.n0; have k4 := g.sid0; have k5 := g.col0; have k6 := g.tab0; clear g; simp [tb_zero_iff] at k1 k2 k3 k4 k5 k6; first | omega | contradiction | (rw [e1] at k1; cases k1))), (fun h => by cases h), A3.out⟩
            | exact ⟨false, rfl, (fun h => by cases h), (fun _ => by (refine ⟨?_, ?_, ?_, ?_, ?_, ?_⟩ <;> simp [tb_zero_iff] <;> first | assumption | omega)), A3.out⟩
      · skip
        simp only [shp] at *
        go_wp2_with fail
        refine (Hky.out _).mono ?_
        rintro e w3 ⟨rfl, a3⟩
        obtain ⟨x, y, z⟩ := Hb.out _ a3
        clear x0 x1 x2 x3 x4 y0 y1 y2 y3 y5 y7 y8 y9 y10 y11 y12
        have A3 := Lib.hid a3
        clear a3 z
        have x0 := x 0
        have x1 := x 1
        have x2 := x 2
        have x3 := x 3
        have x4 := x 4
        have y0 := y 0
        have y1 := y 1
        have y2 := y 2
        have y3 := y 3
        have y5 := y 5
        have y7 := y 7
        have y8 := y 8
        have y9 := y 9
        have y10 := y 10
        have y11 := y 11
        have y12 := y 12
        simp only [List.getElem?_toArray, List.getElem?_cons_zero, List.getElem?_cons_succ] at x0 x1 x2 x3 x4
        simp at y0 y1 y2 y3 y5 y7 y8 y9 y10 y11 y12
        clear x y
        cases e1 : keyOk r.key
        all_goals
          go_wp2_with fail
        all_goals
          clear x0 x1 x2 x3 x4 y0 y1 y2 y3 y5 y7 y8 y9 y10 y11 y12
          go_meet
          first
            | exact ⟨true, rfl, (fun _ => gk_bad HG.out fun g => by (have k1 := g.key; have k2 := g.key0; have k3 := g.n0; have k4 := g.sid0; have k5 := g.col0; have k6 := g.tab0; clear g; simp [tb_zero_iff] at k1 k2 k3 k4 k5 k6; first | omega | contradiction | (rw [e1] at k1; cases k1))), (fun h => by cases h), A3.out⟩
            | exact ⟨false, rfl, (fun h => by cases h), (fun _ => by (refine ⟨?_, ?_, ?_, ?_, ?_, ?_⟩ <;> simp [tb_zero_iff] <;> first | assumption | omega)), A3.out⟩
      · skip
        simp only [shp] at *
        go_wp2_with fail
        refine (Hky.out _).mono ?_
        rintro e w3 ⟨rfl, a3⟩
        obtain ⟨x, y, z⟩ := Hb.out _ a3
        clear x0 x1 x2 x3 x4 y0 y1 y2 y3 y5 y7 y8 y9 y10 y11 y12
        have A3 := Lib.hid a3
        clear a3 z
        have x0 := x 0
        have x1 := x 1
        have x2 := x 2
        have x3 := x 3
        have x4 := x 4
        have y0 := y 0
        have y1 := y 1
        have y2 := y 2
        have y3 := y 3
        have y5 := y 5
        have y7 := y 7
        have y8 := y 8
        have y9 := y 9
        have y10 := y 10
        have y11 := y 11
        have y12 := y 12
        simp only [List.getElem?_toArray, List.getElem?_cons_zero, List.getElem?_cons_succ] at x0 x1 x2 x3 x4
        simp at y0 y1 y2 y3 y5 y7 y8 y9 y10 y11 y12
        clear x y
        cases e1 : keyOk r.key
        all_goals
          go_wp2_with fail
        all_goals
          clear x0 x1 x2 x3 x4 y0 y1 y2 y3 y5 y7 y8 y9 y10 y11 y12
          go_meet
          first
            | exact ⟨true, rfl, (fun _ => gk_bad HG.out fun g => by (have k1 := g.key; have k2 := g.key0; have k3 := g.n0; have k4 := g.sid0; have k5 := g.col0; have k6 := g.tab0; clear g; simp [tb_zero_iff] at k1 k2 k3 k4 k5 k6; first | omega | contradiction | (rw [e1] at k1; cases k1))), (fun h => by cases h), A3.out⟩
            | exact ⟨false, rfl, (fun h => by cases h), (fun _ => by (refine ⟨?_, ?_, ?_, ?_, ?_, ?_⟩ <;> simp [tb_zero_iff] <;> first | assumption | omega)), A3.out⟩
      · skip
        simp only [shp] at *
        go_wp2_with fail
        refine (Hky.out _).mono ?_
        rintro e w3 ⟨rfl, a3⟩
        obtain ⟨x, y, z⟩ := Hb.out _ a3
        clear x0 x1 x2 x3 x4 y0 y1 y2 y3 y5 y7 y8 y9 y10 y11 y12
        have A3 := Lib.hid a3
        clear a3 z
        have x0 := x 0
        have x1 := x 1
        have x2 := x 2
        have x3 := x 3
        have x4 := x 4
        have y0 := y 0
        have y1 := y 1
        have y2 := y 2
        have y3 := y 3
        have y5 := y 5
        have y7 := y 7
        have y8 := y 8
        have y9 := y 9
        have y10 := y 10
        have y11 := y 11
        have y12 := y 12
        simp only [List.getElem?_toArray, List.getElem?_cons_zero, List.getElem?_cons_succ] at x0 x1 x2 x3 x4
        simp at y0 y1 y2 y3 y5 y7 y8 y9 y10 y11 y12
        clear x y
        cases e1 : keyOk r.key
        all_goals
          go_wp2_with fail
        all_goals
          clear x0 x1 x2 x3 x4 y0 y1 y2 y3 y5 y7 y8 y9 y10 y11 y12
          go_meet
          first
            | exact ⟨true, rfl, (fun _ => gk_bad HG.out fun g => by (have k1 := g.key; have k2 := g.key0; have k3 := g.n0; have k4 := g.sid0; have k5 := g.col0; have k6 := g.tab0; clear g; simp [tb_zero_iff] at k1 k2 k3 k4 k5 k6; first | omega | contradiction | (rw [e1] at k1; cases k1))), (fun h => by cases h), A3.out⟩
            | exact ⟨false, rfl, (fun h => by cases h), (fun _ => by (refine ⟨?_, ?_, ?_, ?_, ?_, ?_⟩ <;> simp [tb_zero_iff] <;> first | assumption | omega)), A3.out⟩
      · skip
        simp only [shp] at *
        go_wp2_with fail
        all_goals
          clear x0 x1 x2 x3 x4 y0 y1 y2 y3 y5 y7 y8 y9 y10 y11 y12
          go_meet
          first
            | exact ⟨true, rfl, (fun _ => gk_bad HG.out fun g => by (have k1 := g.key; have k2 := g.key0; have k3 := g.n0; have k4 := g.sid0; have k5 := g.col0; have k6 := g.tab0; clear g; simp [tb_zero_iff] at k1 k2 k3 k4 k5 k6; first | omega | contradiction | (rw [e1] at k1; cases k1))), (fun h => by cases h), Add.refl _⟩
            | exact ⟨false, rfl, (fun h => by cases h), (fun _ => by (refine ⟨?_, ?_, ?_, ?_, ?_, ?_⟩ <;> simp [tb_zero_iff] <;> first | assumption | omega)), Add.refl _⟩
      · skip
        simp only [shp] at *
        go_wp2_with fail
        all_goals
          clear x0 x1 x2 x3 x4 y0 y1 y2 y3 y5 y7 y8 y9 y10 y11 y12
          go_meet
          first
            | exact ⟨true, rfl, (fun _ => gk_bad HG.out fun g => by (have k1 := g.key; have k2 := g.key0; have k3 := g.n0; have k4 := g.sid0; have k5 := g.col0; have k6 := g.tab0; clear g; simp [tb_zero_iff] at k1 k2 k3 k4 k5 k6; first | omega | contradiction | (rw [e1] at k1; cases k1))), (fun h => by cases h), Add.refl _⟩
            | exact ⟨false, rfl, (fun h => by cases h), (fun _ => by (refine ⟨?_, ?_, ?_, ?_, ?_, ?_⟩ <;> simp [tb_zero_iff] <;> first | assumption | omega)), Add.refl _⟩
      · skip
        simp only [shp] at *
        go_wp2_with fail
        all_goals
          clear x0 x1 x2 x3 x4 y0 y1 y2 y3 y5 y7 y8 y9 y10 y11 y12
          go_meet
          first
            | exact ⟨true, rfl, (fun _ => gk_bad HG.out fun g => by (have k1 := g.key; have k2 := g.key0; have k3 := g.n0; have k4 := g.sid0; have k5 := g.col0; have k6 := g.tab0; clear g; simp [tb_zero_iff] at k1 k2 k3 k4 k5 k6; first | omega | contradiction | (rw [e1] at k1; cases k1))), (fun h => by cases h), Add.refl _⟩
            | exact ⟨false, rfl, (fun h => by cases h), (fun _ => by (refine ⟨?_, ?_, ?_, ?_, ?_, ?_⟩ <;> simp [tb_zero_iff] <;> first | assumption | omega)), Add.refl _⟩
      · skip
        simp only [shp] at *
        go_wp2_with fail
        all_goals
          clear x0 x1 x2 x3 x4 y0 y1 y2 y3 y5 y7 y8 y9 y10 y11 y12
          go_meet
          first
            | exact ⟨true, rfl, (fun _ => gk_bad HG.out fun g => by (have k1 := g.key; have k2 := g.key0; have k3 := g.n0; have k4 := g.sid0; have k5 := g.col0; have k6 := g.tab0; clear g; simp [tb_zero_iff] at k1 k2 k3 k4 k5 k6; first | omega | contradiction | (rw [e1] at k1; cases k1))), (fun h => by cases h), Add.refl _⟩
            | exact ⟨false, rfl, (fun h => by cases h), (fun _ => by (refine ⟨?_, ?_, ?_, ?_, ?_, ?_⟩ <;> simp [tb_zero_iff] <;> first | assumption | omega)), Add.refl _⟩
    case rest =>
    obtain ⟨b, rfl, hb1, hb2, ha⟩ := hcut
    cases b
    case true =>
      have E := Lib.hid (hb1 rfl)
      have Z := Lib.hid (Hb.out _ ha).2.2
      clear hb1 hb2 ha
      go_wp2_with fail
      go_ret
      rw [E.out]
      exact ⟨rfl, Z.out⟩
    have GA := Lib.hid (hb2 rfl)
    have Ha := Lib.hid ha
    clear hb1 hb2 ha
    go_upto_region 6 with fail
    go_cut [113] from 78 to 112 (fun v113 wx => ∃ b : Bool, v113 = .bool b ∧ (b = true → rOk r = false) ∧ (b = false → GK2 (shp k) r) ∧ Add (w2.alloc (.cells #[.bool (shp k).key, .bool (decide (0 ≤ (shp k).n)), .bool (shp k).sid, .bool (shp k).colour, .bool (shp k).table] 61)) wx)
    case first =>
      have hc := fun (w' : World) (a : Add wc w') => Hb.out _ (Add.trans Ha.out a)
      rw [HK.out] at hc
      have HC := Lib.hid hc
      clear hc
      have HA := Lib.hid fun (w' : World) (a : Add wc w') => Add.trans Ha.out a
      obtain ⟨x, y, z⟩ := HC.out _ (Add.refl _)
      have x0 := x 0
      have x1 := x 1
      have x2 := x 2
      have x3 := x 3
      have x4 := x 4
      have y0 := y 0
      have y1 := y 1
      have y2 := y 2
      have y3 := y 3
      have y5 := y 5
      have y7 := y 7
      have y8 := y 8
      have y9 := y 9
      have y10 := y 10
      have y11 := y 11
      have y12 := y 12
      simp only [List.getElem?_toArray, List.getElem?_cons_zero, List.getElem?_cons_succ] at x0 x1 x2 x3 x4
      simp at y0 y1 y2 y3 y5 y7 y8 y9 y10 y11 y12
      clear x y
      clear z
      generalize w2.alloc (.cells #[.bool (shp k).key, .bool (decide (0 ≤ (shp k).n)), .bool (shp k).sid, .bool (shp k).colour, .bool (shp k).table] 61) = wA at *
      have A0 := Lib.hid (Add.refl wc)
      obtain rfl | rfl | rfl | rfl | rfl | rfl | rfl | rfl : k = 1 ∨ k = 2 ∨ k = 3 ∨ k = 4 ∨ k = 5 ∨ k = 6 ∨ k = 7 ∨ k = 8 := by omega
      all_goals
        simp only [shp] at *
        go_wp2_with fail
      · skip
        refine (rin_calls (r.n) (0) (64) _).mono ?_
        rintro e w3 ⟨rfl, a⟩
        have A1 := Lib.hid (Add.trans A0.out a)
        obtain ⟨x, y, z⟩ := HC.out _ A1.out
        clear x0 x1 x2 x3 x4 y0 y1 y2 y3 y5 y7 y8 y9 y10 y11 y12 a z
        have x0 := x 0
        have x1 := x 1
        have x2 := x 2
        have x3 := x 3
        have x4 := x 4
        have y0 := y 0
        have y1 := y 1
        have y2 := y 2
        have y3 := y 3
        have y5 := y 5
        have y7 := y 7
        have y8 := y 8
        have y9 := y 9
        have y10 := y 10
        have y11 := y 11
        have y12 := y 12
        simp only [List.getElem?_toArray, List.getElem?_cons_zero, List.getElem?_cons_succ] at x0 x1 x2 x3 x4
        simp at y0 y1 y2 y3 y5 y7 y8 y9 y10 y11 y12
        clear x y
        cases e1 : inn (r.n) (0) (64)
        all_goals
          first | rw [inn_no] at e1 | rw [inn_iff] at e1
          go_wp2_with fail
        · skip
          clear x0 x1 x2 x3 x4 y0 y1 y2 y3 y5 y7 y8 y9 y10 y11 y12
          go_meet
          first
            | exact ⟨true, rfl, (fun _ => gk2_bad HG.out fun g => by (have k1 := g.n; have k2 := g.sid; have k3 := g.col; clear g; (try simp at k1 k2 k3); omega)), (fun h => by cases h), HA.out _ A1.out⟩
            | exact ⟨false, rfl, (fun h => by cases h), (fun _ => by (refine ⟨?_, ?_, ?_⟩ <;> (try simp) <;> omega)), HA.out _ A1.out⟩
        · skip
          refine (rin_calls (r.sid) (1) (2147483647) _).mono ?_
          rintro e w3 ⟨rfl, a⟩
          have A2 := Lib.hid (Add.trans A1.out a)
          obtain ⟨x, y, z⟩ := HC.out _ A2.out
          clear x0 x1 x2 x3 x4 y0 y1 y2 y3 y5 y7 y8 y9 y10 y11 y12 a z
          have x0 := x 0
          have x1 := x 1
          have x2 := x 2
          have x3 := x 3
          have x4 := x 4
          have y0 := y 0
          have y1 := y 1
          have y2 := y 2
          have y3 := y 3
          have y5 := y 5
          have y7 := y 7
          have y8 := y 8
          have y9 := y 9
          have y10 := y 10
          have y11 := y 11
          have y12 := y 12
          simp only [List.getElem?_toArray, List.getElem?_cons_zero, List.getElem?_cons_succ] at x0 x1 x2 x3 x4
          simp at y0 y1 y2 y3 y5 y7 y8 y9 y10 y11 y12
          clear x y
          cases e2 : inn (r.sid) (1) (2147483647)
          all_goals
            first | rw [inn_no] at e2 | rw [inn_iff] at e2
            go_wp2_with fail
          · skip
            clear x0 x1 x2 x3 x4 y0 y1 y2 y3 y5 y7 y8 y9 y10 y11 y12
            go_meet
            first
              | exact ⟨true, rfl, (fun _ => gk2_bad HG.out fun g => by (have k1 := g.n; have k2 := g.sid; have k3 := g.col; clear g; (try simp at k1 k2 k3); omega)), (fun h => by cases h), HA.out _ A2.out⟩
              | exact ⟨false, rfl, (fun h => by cases h), (fun _ => by (refine ⟨?_, ?_, ?_⟩ <;> (try simp) <;> omega)), HA.out _ A2.out⟩
          · skip
            refine (rin_calls (r.colour) (0) (2) _).mono ?_
            rintro e w3 ⟨rfl, a⟩
            have A3 := Lib.hid (Add.trans A2.out a)
            obtain ⟨x, y, z⟩ := HC.out _ A3.out
            clear x0 x1 x2 x3 x4 y0 y1 y2 y3 y5 y7 y8 y9 y10 y11 y12 a z
            have x0 := x 0
            have x1 := x 1
            have x2 := x 2
            have x3 := x 3
            have x4 := x 4
            have y0 := y 0
            have y1 := y 1
            have y2 := y 2
            have y3 := y 3
            have y5 := y 5
            have y7 := y 7
            have y8 := y 8
            have y9 := y 9
            have y10 := y 10
            have y11 := y 11
            have y12 := y 12
            simp only [List.getElem?_toArray, List.getElem?_cons_zero, List.getElem?_cons_succ] at x0 x1 x2 x3 x4
            simp at y0 y1 y2 y3 y5 y7 y8 y9 y10 y11 y12
            clear x y
            cases e3 : inn (r.colour) (0) (2)
            all_goals
              first | rw [inn_no] at e3 | rw [inn_iff] at e3
              go_wp2_with fail
            · skip
              clear x0 x1 x2 x3 x4 y0 y1 y2 y3 y5 y7 y8 y9 y10 y11 y12
              go_meet
              first
                | exact ⟨true, rfl, (fun _ => gk2_bad HG.out fun g => by (have k1 := g.n; have k2 := g.sid; have k3 := g.col; clear g; (try simp at k1 k2 k3); omega)), (fun h => by cases h), HA.out _ A3.out⟩
                | exact ⟨false, rfl, (fun h => by cases h), (fun _ => by (refine ⟨?_, ?_, ?_⟩ <;> (try simp) <;> omega)), HA.out _ A3.out⟩
            · skip
              clear x0 x1 x2 x3 x4 y0 y1 y2 y3 y5 y7 y8 y9 y10 y11 y12
              go_meet
              first
                | exact ⟨true, rfl, (fun _ => gk2_bad HG.out fun g => by (have k1 := g.n; have k2 := g.sid; have k3 := g.col; clear g; (try simp at k1 k2 k3); omega)), (fun h => by cases h), HA.out _ A3.out⟩
                | exact ⟨false, rfl, (fun h => by cases h), (fun _ => by (refine ⟨?_, ?_, ?_⟩ <;> (try simp) <;> omega)), HA.out _ A3.out⟩
      · skip
        refine (rin_calls (r.colour) (0) (2) _).mono ?_
        rintro e w3 ⟨rfl, a⟩
        have A3 := Lib.hid (Add.trans A0.out a)
        obtain ⟨x, y, z⟩ := HC.out _ A3.out
        clear x0 x1 x2 x3 x4 y0 y1 y2 y3 y5 y7 y8 y9 y10 y11 y12 a z
        have x0 := x 0
        have x1 := x 1
        have x2 := x 2
        have x3 := x 3
        have x4 := x 4
        have y0 := y 0
        have y1 := y 1
        have y2 := y 2
        have y3 := y 3
        have y5 := y 5
        have y7 := y 7
        have y8 := y 8
        have y9 := y 9
        have y10 := y 10
        have y11 := y 11
        have y12 := y 12
        simp only [List.getElem?_toArray, List.getElem?_cons_zero, List.getElem?_cons_succ] at x0 x1 x2 x3 x4
        simp at y0 y1 y2 y3 y5 y7 y8 y9 y10 y11 y12
        clear x y
        cases e3 : inn (r.colour) (0) (2)
        all_goals
          first | rw [inn_no] at e3 | rw [inn_iff] at e3
          go_wp2_with fail
        · skip
          clear x0 x1 x2 x3 x4 y0 y1 y2 y3 y5 y7 y8 y9 y10 y11 y12
          go_meet
          first
            | exact ⟨true, rfl, (fun _ => gk2_bad HG.out fun g => by (have k1 := g.n; have k2 := g.sid; have k3 := g.col; clear g; (try simp at k1 k2 k3); omega)), (fun h => by cases h), HA.out _ A3.out⟩
            | exact ⟨false, rfl, (fun h => by cases h), (fun _ => by (refine ⟨?_, ?_, ?_⟩ <;> (try simp) <;> omega)), HA.out _ A3.out⟩
        · skip
          clear x0 x1 x2 x3 x4 y0 y1 y2 y3 y5 y7 y8 y9 y10 y11 y12
          go_meet
          first
            | exact ⟨true, rfl, (fun _ => gk2_bad HG.out fun g => by (have k1 := g.n; have k2 := g.sid; have k3 := g.col; clear g; (try simp at k1 k2 k3); omega)), (fun h => by cases h), HA.out _ A3.out⟩
            | exact ⟨false, rfl, (fun h => by cases h), (fun _ => by (refine ⟨?_, ?_, ?_⟩ <;> (try simp) <;> omega)), HA.out _ A3.out⟩
      · skip
        refine (rin_calls (r.sid) (1) (2147483647) _).mono ?_
        rintro e w3 ⟨rfl, a⟩
        have A2 := Lib.hid (Add.trans A0.out a)
        obtain ⟨x, y, z⟩ := HC.out _ A2.out
        clear x0 x1 x2 x3 x4 y0 y1 y2 y3 y5 y7 y8 y9 y10 y11 y12 a z
        have x0 := x 0
        have x1 := x 1
        have x2 := x 2
        have x3 := x 3
        have x4 := x 4
        have y0 := y 0
        have y1 := y 1
        have y2 := y 2
        have y3 := y 3
        have y5 := y 5
        have y7 := y 7
        have y8 := y 8
        have y9 := y 9
        have y10 := y 10
        have y11 := y 11
        have y12 := y 12
        simp only [List.getElem?_toArray, List.getElem?_cons_zero, List.getElem?_cons_succ] at x0 x1 x2 x3 x4
        simp at y0 y1 y2 y3 y5 y7 y8 y9 y10 y11 y12
        clear x y
        cases e2 : inn (r.sid) (1) (2147483647)
        all_goals
          first | rw [inn_no] at e2 | rw [inn_iff] at e2
          go_wp2_with fail
        · skip
          clear x0 x1 x2 x3 x4 y0 y1 y2 y3 y5 y7 y8 y9 y10 y11 y12
          go_meet
          first
            | exact ⟨true, rfl, (fun _ => gk2_bad HG.out fun g => by (have k1 := g.n; have k2 := g.sid; have k3 := g.col; clear g; (try simp at k1 k2 k3); omega)), (fun h => by cases h), HA.out _ A2.out⟩
            | exact ⟨false, rfl, (fun h => by cases h), (fun _ => by (refine ⟨?_, ?_, ?_⟩ <;> (try simp) <;> omega)), HA.out _ A2.out⟩
        · skip
          refine (rin_calls (r.colour) (0) (2) _).mono ?_
          rintro e w3 ⟨rfl, a⟩
          have A3 := Lib.hid (Add.trans A2.out a)
          obtain ⟨x, y, z⟩ := HC.out _ A3.out
          clear x0 x1 x2 x3 x4 y0 y1 y2 y3 y5 y7 y8 y9 y10 y11 y12 a z
          have x0 := x 0
          have x1 := x 1
          have x2 := x 2
          have x3 := x 3
          have x4 := x 4
          have y0 := y 0
          have y1 := y 1
          have y2 := y 2
          have y3 := y 3
          have y5 := y 5
          have y7 := y 7
          have y8 := y 8
          have y9 := y 9
          have y10 := y 10
          have y11 := y 11
          have y12 := y 12
          simp only [List.getElem?_toArray, List.getElem?_cons_zero, List.getElem?_cons_succ] at x0 x1 x2 x3 x4
          simp at y0 y1 y2 y3 y5 y7 y8 y9 y10 y11 y12
          clear x y
          cases e3 : inn (r.colour) (0) (2)
          all_goals
            first | rw [inn_no] at e3 | rw [inn_iff] at e3
            go_wp2_with fail
          · skip
            clear x0 x1 x2 x3 x4 y0 y1 y2 y3 y5 y7 y8 y9 y10 y11 y12
            go_meet
            first
              | exact ⟨true, rfl, (fun _ => gk2_bad HG.out fun g => by (have k1 := g.n; have k2 := g.sid; have k3 := g.col; clear g; (try simp at k1 k2 k3); omega)), (fun h => by cases h), HA.out _ A3.out⟩
              | exact ⟨false, rfl, (fun h => by cases h), (fun _ => by (refine ⟨?_, ?_, ?_⟩ <;> (try simp) <;> omega)), HA.out _ A3.out⟩
          · skip
            clear x0 x1 x2 x3 x4 y0 y1 y2 y3 y5 y7 y8 y9 y10 y11 y12
            go_meet
            first
              | exact ⟨true, rfl, (fun _ => gk2_bad HG.out fun g => by (have k1 := g.n; have k2 := g.sid; have k3 := g.col; clear g; (try simp at k1 k2 k3); omega)), (fun h => by cases h), HA.out _ A3.out⟩
              | exact ⟨false, rfl, (fun h => by cases h), (fun _ => by (refine ⟨?_, ?_, ?_⟩ <;> (try simp) <;> omega)), HA.out _ A3.out⟩
      · skip
        refine (rin_calls (r.sid) (1) (2147483647) _).mono ?_
        rintro e w3 ⟨rfl, a⟩
        have A2 := Lib.hid (Add.trans A0.out a)
        obtain ⟨x, y, z⟩ := HC.out _ A2.out
        clear x0 x1 x2 x3 x4 y0 y1 y2 y3 y5 y7 y8 y9 y10 y11 y12 a z
        have x0 := x 0
        have x1 := x 1
        have x2 := x 2
        have x3 := x 3
        have x4 := x 4
        have y0 := y 0
        have y1 := y 1
        have y2 := y 2
        have y3 := y 3
        have y5 := y 5
        have y7 := y 7
        have y8 := y 8
        have y9 := y 9
        have y10 := y 10
        have y11 := y 11
        have y12 := y 12
        simp only [List.getElem?_toArray, List.getElem?_cons_zero, List.getElem?_cons_succ] at x0 x1 x2 x3 x4
        simp at y0 y1 y2 y3 y5 y7 y8 y9 y10 y11 y12
        clear x y
        cases e2 : inn (r.sid) (1) (2147483647)
        all_goals
          first | rw [inn_no] at e2 | rw [inn_iff] at e2
          go_wp2_with fail
        · skip
          clear x0 x1 x2 x3 x4 y0 y1 y2 y3 y5 y7 y8 y9 y10 y11 y12
          go_meet
          first
            | exact ⟨true, rfl, (fun _ => gk2_bad HG.out fun g => by (have k1 := g.n; have k2 := g.sid; have k3 := g.col; clear g; (try simp at k1 k2 k3); omega)), (fun h => by cases h), HA.out _ A2.out⟩
            | exact ⟨false, rfl, (fun h => by cases h), (fun _ => by (refine ⟨?_, ?_, ?_⟩ <;> (try simp) <;> omega)), HA.out _ A2.out⟩
        · skip
          refine (rin_calls (r.colour) (0) (2) _).mono ?_
          rintro e w3 ⟨rfl, a⟩
          have A3 := Lib.hid (Add.trans A2.out a)
          obtain ⟨x, y, z⟩ := HC.out _ A3.out
          clear x0 x1 x2 x3 x4 y0 y1 y2 y3 y5 y7 y8 y9 y10 y11 y12 a z
          have x0 := x 0
          have x1 := x 1
          have x2 := x 2
          have x3 := x 3
          have x4 := x 4
          have y0 := y 0
          have y1 := y 1
          have y2 := y 2
          have y3 := y 3
          have y5 := y 5
          have y7 := y 7
          have y8 := y 8
          have y9 := y 9
          have y10 := y 10
          have y11 := y 11
          have y12 := y 12
          simp only [List.getElem?_toArray, List.getElem?_cons_zero, List.getElem?_cons_succ] at x0 x1 x2 x3 x4
          simp at y0 y1 y2 y3 y5 y7 y8 y9 y10 y11 y12
          clear x y
          cases e3 : inn (r.colour) (0) (2)
          all_goals
            first | rw [inn_no] at e3 | rw [inn_iff] at e3
            go_wp2_with fail
          · skip
            clear x0 x1 x2 x3 x4 y0 y1 y2 y3 y5 y7 y8 y9 y10 y11 y12
            go_meet
            first
              | exact ⟨true, rfl, (fun _ => gk2_bad HG.out fun g => by (have k1 := g.n; have k2 := g.sid; have k3 := g.col; clear g; (try simp at k1 k2 k3); omega)), (fun h => by cases h), HA.out _ A3.out⟩
              | exact ⟨false, rfl, (fun h => by cases h), (fun _ => by (refine ⟨?_, ?_, ?_⟩ <;> (try simp) <;> omega)), HA.out _ A3.out⟩
          · skip
            clear x0 x1 x2 x3 x4 y0 y1 y2 y3 y5 y7 y8 y9 y10 y11 y12
            go_meet
            first
              | exact ⟨true, rfl, (fun _ => gk2_bad HG.out fun g => by (have k1 := g.n; have k2 := g.sid; have k3 := g.col; clear g; (try simp at k1 k2 k3); omega)), (fun h => by cases h), HA.out _ A3.out⟩
              | exact ⟨false, rfl, (fun h => by cases h), (fun _ => by (refine ⟨?_, ?_, ?_⟩ <;> (try simp) <;> omega)), HA.out _ A3.out⟩
      · skip
        refine (rin_calls (r.sid) (1) (2147483647) _).mono ?_
        rintro e w3 ⟨rfl, a⟩
        have A2 := Lib.hid (Add.trans A0.out a)
        obtain ⟨x, y, z⟩ := HC.out _ A2.out
        clear x0 x1 x2 x3 x4 y0 y1 y2 y3 y5 y7 y8 y9 y10 y11 y12 a z
        have x0 := x 0
        have x1 := x 1
        have x2 := x 2
        have x3 := x 3
        have x4 := x 4
        have y0 := y 0
        have y1 := y 1
        have y2 := y 2
        have y3 := y 3
        have y5 := y 5
        have y7 := y 7
        have y8 := y 8
        have y9 := y 9
        have y10 := y 10
        have y11 := y 11
        have y12 := y 12
        simp only [List.getElem?_toArray, List.getElem?_cons_zero, List.getElem?_cons_succ] at x0 x1 x2 x3 x4
        simp at y0 y1 y2 y3 y5 y7 y8 y9 y10 y11 y12
        clear x y
        cases e2 : inn (r.sid) (1) (2147483647)
        all_goals
          first | rw [inn_no] at e2 | rw [inn_iff] at e2
          go_wp2_with fail
        · skip
          clear x0 x1 x2 x3 x4 y0 y1 y2 y3 y5 y7 y8 y9 y10 y11 y12
          go_meet
          first
            | exact ⟨true, rfl, (fun _ => gk2_bad HG.out fun g => by (have k1 := g.n; have k2 := g.sid; have k3 := g.col; clear g; (try simp at k1 k2 k3); omega)), (fun h => by cases h), HA.out _ A2.out⟩
            | exact ⟨false, rfl, (fun h => by cases h), (fun _ => by (refine ⟨?_, ?_, ?_⟩ <;> (try simp) <;> omega)), HA.out _ A2.out⟩
        · skip
          refine (rin_calls (r.colour) (0) (2) _).mono ?_
          rintro e w3 ⟨rfl, a⟩
          have A3 := Lib.hid (Add.trans A2.out a)
          obtain ⟨x, y, z⟩ := HC.out _ A3.out
          clear x0 x1 x2 x3 x4 y0 y1 y2 y3 y5 y7 y8 y9 y10 y11 y12 a z
          have x0 := x 0
          have x1 := x 1
          have x2 := x 2
          have x3 := x 3
          have x4 := x 4
          have y0 := y 0
          have y1 := y 1
          have y2 := y 2
          have y3 := y 3
          have y5 := y 5
          have y7 := y 7
          have y8 := y 8
          have y9 := y 9
          have y10 := y 10
          have y11 := y 11
          have y12 := y 12
          simp only [List.getElem?_toArray, List.getElem?_cons_zero, List.getElem?_cons_succ] at x0 x1 x2 x3 x4
          simp at y0 y1 y2 y3 y5 y7 y8 y9 y10 y11 y12
          clear x y
          cases e3 : inn (r.colour) (0) (2)
          all_goals
            first | rw [inn_no] at e3 | rw [inn_iff] at e3
            go_wp2_with fail
          · skip
            clear x0 x1 x2 x3 x4 y0 y1 y2 y3 y5 y7 y8 y9 y10 y11 y12
            go_meet
            first
              | exact ⟨true, rfl, (fun _ => gk2_bad HG.out fun g => by (have k1 := g.n; have k2 := g.sid; have k3 := g.col; clear g; (try simp at k1 k2 k3); omega)), (fun h => by cases h), HA.out _ A3.out⟩
              | exact ⟨false, rfl, (fun h => by cases h), (fun _ => by (refine ⟨?_, ?_, ?_⟩ <;> (try simp) <;> omega)), HA.out _ A3.out⟩
          · skip
            clear x0 x1 x2 x3 x4 y0 y1 y2 y3 y5 y7 y8 y9 y10 y11 y12
            go_meet
            first
              | exact ⟨true, rfl, (fun _ => gk2_bad HG.out fun g => by (have k1 := g.n; have k2 := g.sid; have k3 := g.col; clear g; (try simp at k1 k2 k3); omega)), (fun h => by cases h), HA.out _ A3.out⟩
              | exact ⟨false, rfl, (fun h => by cases h), (fun _ => by (refine ⟨?_, ?_, ?_⟩ <;> (try simp) <;> omega)), HA.out _ A3.out⟩
      · skip
        refine (rin_calls (r.sid) (1) (2147483647) _).mono ?_
        rintro e w3 ⟨rfl, a⟩
        have A2 := Lib.hid (Add.trans A0.out a)
        obtain ⟨x, y, z⟩ := HC.out _ A2.out
        clear x0 x1 x2 x3 x4 y0 y1 y2 y3 y5 y7 y8 y9 y10 y11 y12 a z
        have x0 := x 0
        have x1 := x 1
        have x2 := x 2
        have x3 := x 3
        have x4 := x 4
        have y0 := y 0
        have y1 := y 1
        have y2 := y 2
        have y3 := y 3
        have y5 := y 5
        have y7 := y 7
        have y8 := y 8
        have y9 := y 9
        have y10 := y 10
        have y11 := y 11
        have y12 := y 12
        simp only [List.getElem?_toArray, List.getElem?_cons_zero, List.getElem?_cons_succ] at x0 x1 x2 x3 x4
        simp at y0 y1 y2 y3 y5 y7 y8 y9 y10 y11 y12
        clear x y
        cases e2 : inn (r.sid) (1) (2147483647)
        all_goals
          first | rw [inn_no] at e2 | rw [inn_iff] at e2
          go_wp2_with fail
        · skip
          clear x0 x1 x2 x3 x4 y0 y1 y2 y3 y5 y7 y8 y9 y10 y11 y12
          go_meet
          first
            | exact ⟨true, rfl, (fun _ => gk2_bad HG.out fun g => by (have k1 := g.n; have k2 := g.sid; have k3 := g.col; clear g; (try simp at k1 k2 k3); omega)), (fun h => by cases h), HA.out _ A2.out⟩
            | exact ⟨false, rfl, (fun h => by cases h), (fun _ => by (refine ⟨?_, ?_, ?_⟩ <;> (try simp) <;> omega)), HA.out _ A2.out⟩
        · skip
          refine (rin_calls (r.colour) (0) (2) _).mono ?_
          rintro e w3 ⟨rfl, a⟩
          have A3 := Lib.hid (Add.trans A2.out a)
          obtain ⟨x, y, z⟩ := HC.out _ A3.out
          clear x0 x1 x2 x3 x4 y0 y1 y2 y3 y5 y7 y8 y9 y10 y11 y12 a z
          have x0 := x 0
          have x1 := x 1
          have x2 := x 2
          have x3 := x 3
          have x4 := x 4
          have y0 := y 0
          have y1 := y 1
          have y2 := y 2
          have y3 := y 3
          have y5 := y 5
          have y7 := y 7
          have y8 := y 8
          have y9 := y 9
          have y10 := y 10
          have y11 := y 11
          have y12 := y 12
          simp only [List.getElem?_toArray, List.getElem?_cons_zero, List.getElem?_cons_succ] at x0 x1 x2 x3 x4
          simp at y0 y1 y2 y3 y5 y7 y8 y9 y10 y11 y12
          clear x y
          cases e3 : inn (r.colour) (0) (2)
          all_goals
            first | rw [inn_no] at e3 | rw [inn_iff] at e3
            go_wp2_with fail
          · skip
            clear x0 x1 x2 x3 x4 y0 y1 y2 y3 y5 y7 y8 y9 y10 y11 y12
            go_meet
            first
              | exact ⟨true, rfl, (fun _ => gk2_bad HG.out fun g => by (have k1 := g.n; have k2 := g.sid; have k3 := g.col; clear g; (try simp at k1 k2 k3); omega)), (fun h => by cases h), HA.out _ A3.out⟩
              | exact ⟨false, rfl, (fun h => by cases h), (fun _ => by (refine ⟨?_, ?_, ?_⟩ <;> (try simp) <;> omega)), HA.out _ A3.out⟩
          · skip
            clear x0 x1 x2 x3 x4 y0 y1 y2 y3 y5 y7 y8 y9 y10 y11 y12
            go_meet
            first
              | exact ⟨true, rfl, (fun _ => gk2_bad HG.out fun g => by (have k1 := g.n; have k2 := g.sid; have k3 := g.col; clear g; (try simp at k1 k2 k3); omega)), (fun h => by cases h), HA.out _ A3.out⟩
              | exact ⟨false, rfl, (fun h => by cases h), (fun _ => by (refine ⟨?_, ?_, ?_⟩ <;> (try simp) <;> omega)), HA.out _ A3.out⟩
      · skip
        refine (rin_calls (r.n) (0) (15) _).mono ?_
        rintro e w3 ⟨rfl, a⟩
        have A1 := Lib.hid (Add.trans A0.out a)
        obtain ⟨x, y, z⟩ := HC.out _ A1.out
        clear x0 x1 x2 x3 x4 y0 y1 y2 y3 y5 y7 y8 y9 y10 y11 y12 a z
        have x0 := x 0
        have x1 := x 1
        have x2 := x 2
        have x3 := x 3
        have x4 := x 4
        have y0 := y 0
        have y1 := y 1
        have y2 := y 2
        have y3 := y 3
        have y5 := y 5
        have y7 := y 7
        have y8 := y 8
        have y9 := y 9
        have y10 := y 10
        have y11 := y 11
        have y12 := y 12
        simp only [List.getElem?_toArray, List.getElem?_cons_zero, List.getElem?_cons_succ] at x0 x1 x2 x3 x4
        simp at y0 y1 y2 y3 y5 y7 y8 y9 y10 y11 y12
        clear x y
        cases e1 : inn (r.n) (0) (15)
        all_goals
          first | rw [inn_no] at e1 | rw [inn_iff] at e1
          go_wp2_with fail
        · skip
          clear x0 x1 x2 x3 x4 y0 y1 y2 y3 y5 y7 y8 y9 y10 y11 y12
          go_meet
          first
            | exact ⟨true, rfl, (fun _ => gk2_bad HG.out fun g => by (have k1 := g.n; have k2 := g.sid; have k3 := g.col; clear g; (try simp at k1 k2 k3); omega)), (fun h => by cases h), HA.out _ A1.out⟩
            | exact ⟨false, rfl, (fun h => by cases h), (fun _ => by (refine ⟨?_, ?_, ?_⟩ <;> (try simp) <;> omega)), HA.out _ A1.out⟩
        · skip
          refine (rin_calls (r.sid) (1) (2147483647) _).mono ?_
          rintro e w3 ⟨rfl, a⟩
          have A2 := Lib.hid (Add.trans A1.out a)
          obtain ⟨x, y, z⟩ := HC.out _ A2.out
          clear x0 x1 x2 x3 x4 y0 y1 y2 y3 y5 y7 y8 y9 y10 y11 y12 a z
          have x0 := x 0
          have x1 := x 1
          have x2 := x 2
          have x3 := x 3
          have x4 := x 4
          have y0 := y 0
          have y1 := y 1
          have y2 := y 2
          have y3 := y 3
          have y5 := y 5
          have y7 := y 7
          have y8 := y 8
          have y9 := y 9
          have y10 := y 10
          have y11 := y 11
          have y12 := y 12
          simp only [List.getElem?_toArray, List.getElem?_cons_zero, List.getElem?_cons_succ] at x0 x1 x2 x3 x4
          simp at y0 y1 y2 y3 y5 y7 y8 y9 y10 y11 y12
          clear x y
          cases e2 : inn (r.sid) (1) (2147483647)
          all_goals
            first | rw [inn_no] at e2 | rw [inn_iff] at e2
            go_wp2_with fail
          · skip
            clear x0 x1 x2 x3 x4 y0 y1 y2 y3 y5 y7 y8 y9 y10 y11 y12
            go_meet
            first
              | exact ⟨true, rfl, (fun _ => gk2_bad HG.out fun g => by (have k1 := g.n; have k2 := g.sid; have k3 := g.col; clear g; (try simp at k1 k2 k3); omega)), (fun h => by cases h), HA.out _ A2.out⟩
              | exact ⟨false, rfl, (fun h => by cases h), (fun _ => by (refine ⟨?_, ?_, ?_⟩ <;> (try simp) <;> omega)), HA.out _ A2.out⟩
          · skip
            refine (rin_calls (r.colour) (0) (2) _).mono ?_
            rintro e w3 ⟨rfl, a⟩
            have A3 := Lib.hid (Add.trans A2.out a)
            obtain ⟨x, y, z⟩ := HC.out _ A3.out
            clear x0 x1 x2 x3 x4 y0 y1 y2 y3 y5 y7 y8 y9 y10 y11 y12 a z
            have x0 := x 0
            have x1 := x 1
            have x2 := x 2
            have x3 := x 3
            have x4 := x 4
            have y0 := y 0
            have y1 := y 1
            have y2 := y 2
            have y3 := y 3
            have y5 := y 5
            have y7 := y 7
            have y8 := y 8
            have y9 := y 9
            have y10 := y 10
            have y11 := y 11
            have y12 := y 12
            simp only [List.getElem?_toArray, List.getElem?_cons_zero, List.getElem?_cons_succ] at x0 x1 x2 x3 x4
            simp at y0 y1 y2 y3 y5 y7 y8 y9 y10 y11 y12
            clear x y
            cases e3 : inn (r.colour) (0) (2)
            all_goals
              first | rw [inn_no] at e3 | rw [inn_iff] at e3
              go_wp2_with fail
            · skip
              clear x0 x1 x2 x3 x4 y0 y1 y2 y3 y5 y7 y8 y9 y10 y11 y12
              go_meet
              first
                | exact ⟨true, rfl, (fun _ => gk2_bad HG.out fun g => by (have k1 := g.n; have k2 := g.sid; have k3 := g.col; clear g; (try simp at k1 k2 k3); omega)), (fun h => by cases h), HA.out _ A3.out⟩
                | exact ⟨false, rfl, (fun h => by cases h), (fun _ => by (refine ⟨?_, ?_, ?_⟩ <;> (try simp) <;> omega)), HA.out _ A3.out⟩
            · skip
              clear x0 x1 x2 x3 x4 y0 y1 y2 y3 y5 y7 y8 y9 y10 y11 y12
              go_meet
              first
                | exact ⟨true, rfl, (fun _ => gk2_bad HG.out fun g => by (have k1 := g.n; have k2 := g.sid; have k3 := g.col; clear g; (try simp at k1 k2 k3); omega)), (fun h => by cases h), HA.out _ A3.out⟩
                | exact ⟨false, rfl, (fun h => by cases h), (fun _ => by (refine ⟨?_, ?_, ?_⟩ <;> (try simp) <;> omega)), HA.out _ A3.out⟩
      · skip
        refine (rin_calls (r.colour) (0) (2) _).mono ?_
        rintro e w3 ⟨rfl, a⟩
        have A3 := Lib.hid (Add.trans A0.out a)
        obtain ⟨x, y, z⟩ := HC.out _ A3.out
        clear x0 x1 x2 x3 x4 y0 y1 y2 y3 y5 y7 y8 y9 y10 y11 y12 a z
        have x0 := x 0
        have x1 := x 1
        have x2 := x 2
        have x3 := x 3
        have x4 := x 4
        have y0 := y 0
        have y1 := y 1
        have y2 := y 2
        have y3 := y 3
        have y5 := y 5
        have y7 := y 7
        have y8 := y 8
        have y9 := y 9
        have y10 := y 10
        have y11 := y 11
        have y12 := y 12
        simp only [List.getElem?_toArray, List.getElem?_cons_zero, List.getElem?_cons_succ] at x0 x1 x2 x3 x4
        simp at y0 y1 y2 y3 y5 y7 y8 y9 y10 y11 y12
        clear x y
        cases e3 : inn (r.colour) (0) (2)
        all_goals
          first | rw [inn_no] at e3 | rw [inn_iff] at e3
          go_wp2_with fail
        · skip
          clear x0 x1 x2 x3 x4 y0 y1 y2 y3 y5 y7 y8 y9 y10 y11 y12
          go_meet
          first
            | exact ⟨true, rfl, (fun _ => gk2_bad HG.out fun g => by (have k1 := g.n; have k2 := g.sid; have k3 := g.col; clear g; (try simp at k1 k2 k3); omega)), (fun h => by cases h), HA.out _ A3.out⟩
            | exact ⟨false, rfl, (fun h => by cases h), (fun _ => by (refine ⟨?_, ?_, ?_⟩ <;> (try simp) <;> omega)), HA.out _ A3.out⟩
        · skip
          clear x0 x1 x2 x3 x4 y0 y1 y2 y3 y5 y7 y8 y9 y10 y11 y12
          go_meet
          first
            | exact ⟨true, rfl, (fun _ => gk2_bad HG.out fun g => by (have k1 := g.n; have k2 := g.sid; have k3 := g.col; clear g; (try simp at k1 k2 k3); omega)), (fun h => by cases h), HA.out _ A3.out⟩
            | exact ⟨false, rfl, (fun h => by cases h), (fun _ => by (refine ⟨?_, ?_, ?_⟩ <;> (try simp) <;> omega)), HA.out _ A3.out⟩
    case rest =>
    obtain ⟨b, rfl, hb1, hb2, ha⟩ := hcut
    cases b
    case true =>
      have E := Lib.hid (hb1 rfl)
      have Z := Lib.hid (Hb.out _ ha).2.2
      clear hb1 hb2 ha
      go_wp2_with fail
      go_ret
      rw [E.out]
      exact ⟨rfl, Z.out⟩
    have GB := Lib.hid (hb2 rfl)
    have Hc := Lib.hid ha
    clear hb1 hb2 ha
    have Z := Lib.hid (Hb.out _ Hc.out).2.2
    have hr := fun (w' : World) (a : Add wc w') => (Hb.out _ (Add.trans Hc.out a)).2
    rw [HK.out] at hr
    have HR := Lib.hid hr
    clear hr
    clear c0 Ha Hb
    generalize w2.heap.size = pn at *
    obtain ⟨y, z⟩ := HR.out _ (Add.refl _)
    have y0 := y 0
    have y4 := y 4
    have y6 := y 6
    have y7 := y 7
    have y8 := y 8
    have y9 := y 9
    have y10 := y 10
    have y11 := y 11
    have y12 := y 12
    simp at y0 y4 y6 y7 y8 y9 y10 y11 y12
    clear y
    clear z
    go_wp2_with fail
    refine (rsids_calls k g1 g8 _).mono ?_
    rintro e w4 ⟨rfl, a4⟩
    have A4 := Lib.hid a4
    obtain ⟨y, z⟩ := HR.out _ a4
    clear y0 y4 y6 y7 y8 y9 y10 y11 y12 a4 z
    have y0 := y 0
    have y4 := y 4
    have y6 := y 6
    have y7 := y 7
    have y8 := y 8
    have y9 := y 9
    have y10 := y 10
    have y11 := y 11
    have y12 := y 12
    simp at y0 y4 y6 y7 y8 y9 y10 y11 y12
    clear y
    by_cases hns : (r.sids.length : Int) = dSids (shp k)
    case neg =>
      have hne : ((r.sids.length : Int) != dSids (shp k)) = true := by rw [bne_iff_ne]; exact hns
      have E := Lib.hid (show rOk r = false from g_bad HG.out fun g => hns (by
        have h := g.ns
        unfold dSids
        split at h <;> rename_i h1 <;> simp [h1, h]))
      have Z4 := Lib.hid (HR.out _ A4.out).2
      clear hns
      go_wp2_with fail
      go_ret
      rw [E.out]
      exact ⟨rfl, Z4.out⟩
    have hne : ((r.sids.length : Int) != dSids (shp k)) = false := by rw [hns]; simp
    have hl3 : r.sids.length ≤ 3 := by unfold dSids at hns; split at hns <;> omega
    have hLN := fun (n : Nat) (hn : n < r.sids.length) => cntS_succ r.sids n hn
    have hLL := fun (n : Nat) => cntS_le r.sids n
    have hml : r.locs.length ≤ 9223372036854775807 := by omega
    have GN := Lib.hid hns
    have hl6 := shp_l2 k
    by_cases h6 : k = 6
    · have hdv : dSids (shp k) = 3 := by rw [h6]; rfl
      have hlv : (shp k).locs = -1 := by rw [h6]; rfl
      have hs6 : r.sids.length = 3 := by omega
      have H6 := Lib.hid h6
      have hk6 : (k : Int) = 6 := by omega
      have GL := Lib.hid (fun (h : (r.locs.length : Int) = (cntS r.sids r.sids.length : Nat)) => (show r.locs.length = cntL (shp k) r.sids from nl_six h6 h))
      have GL2 := Lib.hid (fun (h : r.locs.length = cntL (shp k) r.sids) => (show (r.locs.length : Int) = (cntS r.sids r.sids.length : Nat) from nl_six' h6 h))
      have GS := Lib.hid (show (shp k).sids = 0 by rw [h6]; rfl)
      rw [hk6] at HR y0
      clear hns h6 hne
      go_wp2_with fail
      go_loopw [5, 7] (fun v5 i wr => ∃ n : Nat, n ≤ r.sids.length ∧ i = .int .i64 n ∧ v5 = .int .i64 (((cntS r.sids n : Nat) : Int)) ∧ (r.sids.take n).all (fun s => inn s 0 2147483647) = true ∧ Add wc wr) (fun _ i => fun _ => r.sids.length - (intOf i).toNat)
      case atStart => exact ⟨0, Nat.zero_le _, rfl, by first | rfl | (simp [hlv]; done) | simp [cntS], by simp, A4.out⟩
      case round =>
        obtain ⟨n, hn, rfl, rfl, hall, ha⟩ := hrel
        obtain ⟨y, z⟩ := HR.out _ ha
        have Ha := Lib.hid ha
        clear ha y0 y4 y6 y7 y8 y9 y10 y11 y12
        have y0 := y 0
        have y4 := y 4
        have y6 := y 6
        have y7 := y 7
        have y8 := y 8
        have y9 := y 9
        have y10 := y 10
        have y11 := y 11
        have y12 := y 12
        simp at y0 y4 y6 y7 y8 y9 y10 y11 y12
        clear y
        by_cases hlt : n < r.sids.length
        · have hltI : (n : Int) < (r.sids.length : Int) := by omega
          have hsa : ∃ b1 o1, sa = some ⟨b1, o1, none⟩ := HS.out.head (by omega)
          obtain ⟨b1, o1, rfl⟩ := hsa
          have hx := fun (w' : World) (a : Add wr w') => ((HS.out.below z).below a).cellAt n hlt
          have x1 := hx _ (Add.refl _)
          have hst := hLN n hlt
          have hal : (r.sids.take (n + 1)).all (fun s => inn s 0 2147483647) = inn r.sids[n] 0 2147483647 := by rw [List.take_succ_eq_append_getElem hlt, List.all_append, hall]; simp
          have hmem := List.getElem_mem hlt
          have hll := hLL n
          have HX := Lib.hid hx
          generalize r.sids[n] = c at *
          have HAL := Lib.hid hal
          have HM := Lib.hid hmem
          clear hx hal hmem hall hLN z
          go_wp2_with fail
          refine (rin_calls c 0 2147483647 _).mono ?_
          rintro e w5 ⟨rfl, a5⟩
          obtain ⟨y, z⟩ := HR.out _ (Add.trans Ha.out a5)
          have z1 := HX.out _ a5
          have A5 := Lib.hid (Add.trans Ha.out a5)
          have Z5 := Lib.hid z
          clear a5 z y0 y4 y6 y7 y8 y9 y10 y11 y12 x1
          have y0 := y 0
          have y4 := y 4
          have y6 := y 6
          have y7 := y 7
          have y8 := y 8
          have y9 := y 9
          have y10 := y 10
          have y11 := y 11
          have y12 := y 12
          simp at y0 y4 y6 y7 y8 y9 y10 y11 y12
          clear y
          cases e1 : inn c 0 2147483647
          · have E := Lib.hid (show rOk r = false from g_bad HG.out fun g => by
              have h := g.sids c HM.out
              have hm : c ∈ r.sids := HM.out
              have hq := (show (shp k).sids = 0 from GS.out)
              rw [inn_no] at e1
              omega)
            go_wp2_with fail
            go_ret
            rw [E.out]
            exact ⟨rfl, Z5.out⟩
          · have HAL2 := Lib.hid (HAL.out.trans e1)
            clear e1 HAL
            go_wp2_with fail
            all_goals
              go_roundw
              case rel => exact ⟨n + 1, by omega, by go_num, by first | rfl | (rw [hst]; simp_all), HAL2.out, A5.out⟩
              case measure => simp [intOf]; omega
        · obtain rfl : n = r.sids.length := by omega
          rw [List.take_length] at hall
          have HALL := Lib.hid hall
          have hnl : ¬ (r.sids.length : Int) < (r.sids.length : Int) := by omega
          clear hall hlt hn hLN
          generalize (((cntS r.sids r.sids.length : Nat) : Int)) = q at *
          by_cases hcl : (r.locs.length : Int) = q
          case neg =>
            have hcl' : ((r.locs.length : Int) != q) = true := by rw [bne_iff_ne]; exact hcl
            have E := Lib.hid (show rOk r = false from g_bad HG.out fun g => hcl (GL2.out g.nl))
            have Z5 := Lib.hid z
            clear hcl z
            go_wp2_with fail
            go_ret
            rw [E.out]
            exact ⟨rfl, Z5.out⟩
          have hcl' : ((r.locs.length : Int) != q) = false := by rw [hcl]; simp
          have GN2 := Lib.hid (GL.out hcl)
          clear hcl z
          go_wp2_with fail
          go_loopw [8] (fun i wr => ∃ n : Nat, n ≤ r.locs.length ∧ i = .int .i64 n ∧ (r.locs.take n).all lcOk = true ∧ Add wc wr) (fun i => fun _ => r.locs.length - (intOf i).toNat)
          case atStart => exact ⟨0, Nat.zero_le _, rfl, by simp, Ha.out⟩
          case round =>
            obtain ⟨n, hn, rfl, hall, ha⟩ := hrel
            obtain ⟨y, z⟩ := HR.out _ ha
            clear Ha y0 y4 y6 y7 y8 y9 y10 y11 y12
            have Ha := Lib.hid ha
            clear ha
            have y0 := y 0
            have y4 := y 4
            have y6 := y 6
            have y7 := y 7
            have y8 := y 8
            have y9 := y 9
            have y10 := y 10
            have y11 := y 11
            have y12 := y 12
            simp at y0 y4 y6 y7 y8 y9 y10 y11 y12
            clear y
            by_cases hlt : n < r.locs.length
            · have hltI : (n : Int) < (r.locs.length : Int) := by omega
              have hla : ∃ b1 o1, la = some ⟨b1, o1, none⟩ := HL.out.head (by omega)
              obtain ⟨b1, o1, rfl⟩ := hla
              obtain ⟨x0, x1, x2⟩ := (HL.out.below z).cellsAt n hlt
              have hal : (r.locs.take (n + 1)).all lcOk = lcOk r.locs[n] := by rw [List.take_succ_eq_append_getElem hlt, List.all_append, hall]; simp
              have hmem := List.getElem_mem hlt
              generalize r.locs[n] = c at *
              have HAL := Lib.hid (hal.trans (show lcOk c = (inn c.d 0 23 && inn c.s 0 63 && inn c.id 1 2147483647) from rfl))
              have HM := Lib.hid (show lcOk c = false → rOk r = false from fun h => g_bad HG.out fun g => by rw [g.locs c hmem] at h; cases h)
              have hbx2 := fun (w' : World) (a : Add (wr.alloc (.cells #[.int .i64 c.d, .int .i64 c.s, .int .i64 c.id] 31)) w') => box_cells a
              have HX := Lib.hid hbx2
              clear hbx2 hal hmem hall z
              go_wp2_with fail
              refine (rin_calls c.d 0 23 _).mono ?_
              rintro e w5 ⟨rfl, a5⟩
              have A5 := Lib.hid a5
              obtain ⟨x, -⟩ := HX.out _ a5
              have x0 := x 0
              have x1 := x 1
              have x2 := x 2
              simp at x0 x1 x2
              clear x a5
              cases e1 : inn c.d 0 23
              · have E := Lib.hid (HM.out (by simp [lcOk, e1]))
                clear e1
                go_wp2_with fail
                go_ret
                rw [E.out]
                exact ⟨rfl, (HR.out _ (Ha.out.trans ((Add.alloc _ _).trans A5.out))).2⟩
              · have E1 := Lib.hid e1
                clear e1
                go_wp2_with fail
                refine (rin_calls c.s 0 63 _).mono ?_
                rintro e w6 ⟨rfl, a6⟩
                have a7 := Add.trans A5.out a6
                clear x0 x1 x2 a6
                have A6 := Lib.hid a7
                obtain ⟨x, -⟩ := HX.out _ a7
                have x0 := x 0
                have x1 := x 1
                have x2 := x 2
                simp at x0 x1 x2
                clear x a7
                cases e2 : inn c.s 0 63
                · have E := Lib.hid (HM.out (by simp [lcOk, e2]))
                  clear e2
                  go_wp2_with fail
                  go_ret
                  rw [E.out]
                  exact ⟨rfl, (HR.out _ (Ha.out.trans ((Add.alloc _ _).trans A6.out))).2⟩
                · have E2 := Lib.hid e2
                  clear e2
                  go_wp2_with fail
                  refine (rin_calls c.id 1 2147483647 _).mono ?_
                  rintro e w7 ⟨rfl, a8⟩
                  have a9 := Add.trans A6.out a8
                  clear x0 x1 x2 a8
                  have A7 := Lib.hid a9
                  obtain ⟨x, -⟩ := HX.out _ a9
                  have x0 := x 0
                  have x1 := x 1
                  have x2 := x 2
                  simp at x0 x1 x2
                  clear x a9
                  cases e3 : inn c.id 1 2147483647
                  · have E := Lib.hid (HM.out (by simp [lcOk, e3]))
                    clear e3
                    go_wp2_with fail
                    go_ret
                    rw [E.out]
                    exact ⟨rfl, (HR.out _ (Ha.out.trans ((Add.alloc _ _).trans A7.out))).2⟩
                  · have HAL2 := Lib.hid (HAL.out.trans (by rw [E1.out, E2.out, e3]))
                    have AN := Lib.hid (Ha.out.trans ((Add.alloc _ _).trans A7.out))
                    clear e3 HAL HX HM A5 A6 A7
                    go_wp2_with fail
                    go_roundw
                    case rel => exact ⟨n + 1, by omega, by go_num, HAL2.out, AN.out⟩
                    case measure => simp [intOf]; omega
            · obtain rfl : n = r.locs.length := by omega
              rw [List.take_length] at hall
              have HLOC := Lib.hid (fun l hl => (List.all_eq_true.1 hall) l hl)
              have hnl2 : ¬ (r.locs.length : Int) < (r.locs.length : Int) := by omega
              have Q := Lib.hid (rtables_calls r.tab wr)
              unfold tbV tbA at Q
              clear hall hlt hn z
              go_wp2_with fail
              refine Q.out.mono ?_
              rintro e w5 ⟨rfl, a5⟩
              have hbx2 := fun (w' : World) (a : Add (w5.alloc (.cells #[.int .i64 r.tab.hot, .int .i64 r.tab.warm, .int .i64 r.tab.gap, .int .i64 r.tab.add, .int .i64 r.tab.top, .int .i64 r.tab.half] 66)) w') => (show (∀ n (h : n < r.tab.list.length), w'.cell? ⟨w5.heap.size, n, none⟩ = some (.int .i64 r.tab.list[n])) ∧ Add w w' from ⟨fun n h => ((box_cells a).1 n).trans (tab_at r.tab n h), (HR.out _ (Ha.out.trans (a5.trans ((Add.alloc _ _).trans a)))).2⟩)
              have HX := Lib.hid hbx2
              have E := Lib.hid (fun (h : ∀ n ∈ r.tab.list, 0 ≤ n ∧ n ≤ 1000000) => (show rOk r = true from HG.out.2 (good_of (by rw [HK.out]; omega) (by rw [HK.out]; omega) GA.out GB.out GN.out (fun s hm => by
                have q1 := inn_iff.1 ((List.all_eq_true.1 HALL.out) s hm)
                have hq := (show (shp k).sids = 0 from GS.out)
                omega) GN2.out HLOC.out h)))
              have HT := Lib.hid (fun (n : Int) (hm : n ∈ r.tab.list) (h : inn n 0 1000000 = false) => (show rOk r = false from g_bad HG.out fun g => by
                have q1 := tab_ok g n hm
                rw [inn_no] at h
                omega))
              clear hbx2 a5 Q y0 y4 y6 y7 y8 y9 y10 y11 y12 HALL HLOC GN2 GL GL2 GS GN HR
              go_wp2_with fail
              go_loopw [11] (fun i wr => ∃ n : Nat, n ≤ 6 ∧ i = .int .i64 n ∧ (r.tab.list.take n).all (fun s => inn s 0 1000000) = true ∧ Add (w5.alloc (.cells #[.int .i64 r.tab.hot, .int .i64 r.tab.warm, .int .i64 r.tab.gap, .int .i64 r.tab.add, .int .i64 r.tab.top, .int .i64 r.tab.half] 66)) wr) (fun i => fun _ => 6 - (intOf i).toNat)
              case atStart => exact ⟨0, Nat.zero_le _, rfl, by simp, Add.refl _⟩
              case round =>
                obtain ⟨n, hn, rfl, hall, ha⟩ := hrel
                by_cases hlt : n < 6
                · have hltI : (n : Int) < 6 := by omega
                  have hlt' : n < r.tab.list.length := hlt
                  obtain ⟨x, z⟩ := HX.out _ ha
                  have x0 := x n hlt'
                  have hal : (r.tab.list.take (n + 1)).all (fun s => inn s 0 1000000) = inn r.tab.list[n] 0 1000000 := by rw [List.take_succ_eq_append_getElem hlt', List.all_append, hall]; simp
                  have hmem := List.getElem_mem hlt'
                  generalize r.tab.list[n] = c at *
                  have HAL := Lib.hid hal
                  have HM := Lib.hid hmem
                  have HA := Lib.hid ha
                  clear hal hmem hall ha x z hlt'
                  go_wp2_with fail
                  refine (rin_calls c 0 1000000 _).mono ?_
                  rintro e w6 ⟨rfl, a6⟩
                  have A6 := Lib.hid (Add.trans HA.out a6)
                  clear a6 x0
                  cases e1 : inn c 0 1000000
                  · have E := Lib.hid (HT.out c HM.out e1)
                    clear e1
                    go_wp2_with fail
                    go_ret
                    rw [E.out]
                    exact ⟨rfl, (HX.out _ A6.out).2⟩
                  · have HAL2 := Lib.hid (HAL.out.trans e1)
                    clear e1 HAL
                    go_wp2_with fail
                    go_roundw
                    case rel => exact ⟨n + 1, by omega, by go_num, HAL2.out, A6.out⟩
                    case measure => simp [intOf]; omega
                · have hlt3 : ¬ (n : Int) < 6 := by omega
                  have E2 := Lib.hid (E.out (by
                    rw [List.take_of_length_le (show r.tab.list.length ≤ n by show 6 ≤ n; omega)] at hall
                    exact fun m hm => inn_iff.1 ((List.all_eq_true.1 hall) m hm)))
                  have Z6 := Lib.hid (HX.out _ ha).2
                  clear hall ha hlt hn
                  go_wp2_with fail
                  go_ret
                  rw [E2.out]
                  exact ⟨rfl, Z6.out⟩
    · have hk6 : ¬ (k : Int) = 6 := by omega
      have H6 := Lib.hid h6
      have GL := Lib.hid (fun (h : (r.locs.length : Int) = (shp k).locs) => (show r.locs.length = cntL (shp k) r.sids from nl_oth h))
      have GL2 := Lib.hid (fun (h : r.locs.length = cntL (shp k) r.sids) => (show (r.locs.length : Int) = (shp k).locs from nl_oth' g1 g8 h6 h))
      have GS := Lib.hid (oth_sids g1 g8 h6 GN.out)
      clear hns
      have hk7 : ((k : Int) == 6) = false := by rw [beq_eq_false_iff_ne]; exact hk6
      go_wp2_with fail
      go_loopw [5, 7] (fun v5 i wr => ∃ n : Nat, n ≤ r.sids.length ∧ i = .int .i64 n ∧ v5 = .int .i64 ((shp k).locs) ∧ (r.sids.take n).all (fun s => inn s 1 2147483647) = true ∧ Add wc wr) (fun _ i => fun _ => r.sids.length - (intOf i).toNat)
      case atStart => exact ⟨0, Nat.zero_le _, rfl, by first | rfl | (simp [hlv]; done) | simp [cntS], by simp, A4.out⟩
      case round =>
        obtain ⟨n, hn, rfl, rfl, hall, ha⟩ := hrel
        obtain ⟨y, z⟩ := HR.out _ ha
        have Ha := Lib.hid ha
        clear ha y0 y4 y6 y7 y8 y9 y10 y11 y12
        have y0 := y 0
        have y4 := y 4
        have y6 := y 6
        have y7 := y 7
        have y8 := y 8
        have y9 := y 9
        have y10 := y 10
        have y11 := y 11
        have y12 := y 12
        simp at y0 y4 y6 y7 y8 y9 y10 y11 y12
        clear y
        by_cases hlt : n < r.sids.length
        · have hltI : (n : Int) < (r.sids.length : Int) := by omega
          have hsa : ∃ b1 o1, sa = some ⟨b1, o1, none⟩ := HS.out.head (by omega)
          obtain ⟨b1, o1, rfl⟩ := hsa
          have hx := fun (w' : World) (a : Add wr w') => ((HS.out.below z).below a).cellAt n hlt
          have x1 := hx _ (Add.refl _)
          have hst := hLN n hlt
          have hal : (r.sids.take (n + 1)).all (fun s => inn s 1 2147483647) = inn r.sids[n] 1 2147483647 := by rw [List.take_succ_eq_append_getElem hlt, List.all_append, hall]; simp
          have hmem := List.getElem_mem hlt
          have hll := hLL n
          have HX := Lib.hid hx
          generalize r.sids[n] = c at *
          have HAL := Lib.hid hal
          have HM := Lib.hid hmem
          clear hx hal hmem hall hLN z
          go_wp2_with fail
          refine (rin_calls c 1 2147483647 _).mono ?_
          rintro e w5 ⟨rfl, a5⟩
          obtain ⟨y, z⟩ := HR.out _ (Add.trans Ha.out a5)
          have z1 := HX.out _ a5
          have A5 := Lib.hid (Add.trans Ha.out a5)
          have Z5 := Lib.hid z
          clear a5 z y0 y4 y6 y7 y8 y9 y10 y11 y12 x1
          have y0 := y 0
          have y4 := y 4
          have y6 := y 6
          have y7 := y 7
          have y8 := y 8
          have y9 := y 9
          have y10 := y 10
          have y11 := y 11
          have y12 := y 12
          simp at y0 y4 y6 y7 y8 y9 y10 y11 y12
          clear y
          cases e1 : inn c 1 2147483647
          · have E := Lib.hid (show rOk r = false from g_bad HG.out fun g => by
              have h := g.sids c HM.out
              have hm : c ∈ r.sids := HM.out
              have hq := (show (shp k).sids = 1 from GS.out (by intro h; rw [h] at hm; cases hm))
              rw [inn_no] at e1
              omega)
            go_wp2_with fail
            go_ret
            rw [E.out]
            exact ⟨rfl, Z5.out⟩
          · have HAL2 := Lib.hid (HAL.out.trans e1)
            clear e1 HAL
            go_wp2_with fail
            all_goals
              go_roundw
              case rel => exact ⟨n + 1, by omega, by go_num, by first | rfl | (rw [hst]; simp_all), HAL2.out, A5.out⟩
              case measure => simp [intOf]; omega
        · obtain rfl : n = r.sids.length := by omega
          rw [List.take_length] at hall
          have HALL := Lib.hid hall
          have hnl : ¬ (r.sids.length : Int) < (r.sids.length : Int) := by omega
          clear hall hlt hn hLN
          generalize ((shp k).locs) = q at *
          by_cases hcl : (r.locs.length : Int) = q
          case neg =>
            have hcl' : ((r.locs.length : Int) != q) = true := by rw [bne_iff_ne]; exact hcl
            have E := Lib.hid (show rOk r = false from g_bad HG.out fun g => hcl (GL2.out g.nl))
            have Z5 := Lib.hid z
            clear hcl z
            go_wp2_with fail
            go_ret
            rw [E.out]
            exact ⟨rfl, Z5.out⟩
          have hcl' : ((r.locs.length : Int) != q) = false := by rw [hcl]; simp
          have GN2 := Lib.hid (GL.out hcl)
          clear hcl z
          go_wp2_with fail
          go_loopw [8] (fun i wr => ∃ n : Nat, n ≤ r.locs.length ∧ i = .int .i64 n ∧ (r.locs.take n).all lcOk = true ∧ Add wc wr) (fun i => fun _ => r.locs.length - (intOf i).toNat)
          case atStart => exact ⟨0, Nat.zero_le _, rfl, by simp, Ha.out⟩
          case round =>
            obtain ⟨n, hn, rfl, hall, ha⟩ := hrel
            obtain ⟨y, z⟩ := HR.out _ ha
            clear Ha y0 y4 y6 y7 y8 y9 y10 y11 y12
            have Ha := Lib.hid ha
            clear ha
            have y0 := y 0
            have y4 := y 4
            have y6 := y 6
            have y7 := y 7
            have y8 := y 8
            have y9 := y 9
            have y10 := y 10
            have y11 := y 11
            have y12 := y 12
            simp at y0 y4 y6 y7 y8 y9 y10 y11 y12
            clear y
            by_cases hlt : n < r.locs.length
            · have hltI : (n : Int) < (r.locs.length : Int) := by omega
              have hla : ∃ b1 o1, la = some ⟨b1, o1, none⟩ := HL.out.head (by omega)
              obtain ⟨b1, o1, rfl⟩ := hla
              obtain ⟨x0, x1, x2⟩ := (HL.out.below z).cellsAt n hlt
              have hal : (r.locs.take (n + 1)).all lcOk = lcOk r.locs[n] := by rw [List.take_succ_eq_append_getElem hlt, List.all_append, hall]; simp
              have hmem := List.getElem_mem hlt
              generalize r.locs[n] = c at *
              have HAL := Lib.hid (hal.trans (show lcOk c = (inn c.d 0 23 && inn c.s 0 63 && inn c.id 1 2147483647) from rfl))
              have HM := Lib.hid (show lcOk c = false → rOk r = false from fun h => g_bad HG.out fun g => by rw [g.locs c hmem] at h; cases h)
              have hbx2 := fun (w' : World) (a : Add (wr.alloc (.cells #[.int .i64 c.d, .int .i64 c.s, .int .i64 c.id] 31)) w') => box_cells a
              have HX := Lib.hid hbx2
              clear hbx2 hal hmem hall z
              go_wp2_with fail
              refine (rin_calls c.d 0 23 _).mono ?_
              rintro e w5 ⟨rfl, a5⟩
              have A5 := Lib.hid a5
              obtain ⟨x, -⟩ := HX.out _ a5
              have x0 := x 0
              have x1 := x 1
              have x2 := x 2
              simp at x0 x1 x2
              clear x a5
              cases e1 : inn c.d 0 23
              · have E := Lib.hid (HM.out (by simp [lcOk, e1]))
                clear e1
                go_wp2_with fail
                go_ret
                rw [E.out]
                exact ⟨rfl, (HR.out _ (Ha.out.trans ((Add.alloc _ _).trans A5.out))).2⟩
              · have E1 := Lib.hid e1
                clear e1
                go_wp2_with fail
                refine (rin_calls c.s 0 63 _).mono ?_
                rintro e w6 ⟨rfl, a6⟩
                have a7 := Add.trans A5.out a6
                clear x0 x1 x2 a6
                have A6 := Lib.hid a7
                obtain ⟨x, -⟩ := HX.out _ a7
                have x0 := x 0
                have x1 := x 1
                have x2 := x 2
                simp at x0 x1 x2
                clear x a7
                cases e2 : inn c.s 0 63
                · have E := Lib.hid (HM.out (by simp [lcOk, e2]))
                  clear e2
                  go_wp2_with fail
                  go_ret
                  rw [E.out]
                  exact ⟨rfl, (HR.out _ (Ha.out.trans ((Add.alloc _ _).trans A6.out))).2⟩
                · have E2 := Lib.hid e2
                  clear e2
                  go_wp2_with fail
                  refine (rin_calls c.id 1 2147483647 _).mono ?_
                  rintro e w7 ⟨rfl, a8⟩
                  have a9 := Add.trans A6.out a8
                  clear x0 x1 x2 a8
                  have A7 := Lib.hid a9
                  obtain ⟨x, -⟩ := HX.out _ a9
                  have x0 := x 0
                  have x1 := x 1
                  have x2 := x 2
                  simp at x0 x1 x2
                  clear x a9
                  cases e3 : inn c.id 1 2147483647
                  · have E := Lib.hid (HM.out (by simp [lcOk, e3]))
                    clear e3
                    go_wp2_with fail
                    go_ret
                    rw [E.out]
                    exact ⟨rfl, (HR.out _ (Ha.out.trans ((Add.alloc _ _).trans A7.out))).2⟩
                  · have HAL2 := Lib.hid (HAL.out.trans (by rw [E1.out, E2.out, e3]))
                    have AN := Lib.hid (Ha.out.trans ((Add.alloc _ _).trans A7.out))
                    clear e3 HAL HX HM A5 A6 A7
                    go_wp2_with fail
                    go_roundw
                    case rel => exact ⟨n + 1, by omega, by go_num, HAL2.out, AN.out⟩
                    case measure => simp [intOf]; omega
            · obtain rfl : n = r.locs.length := by omega
              rw [List.take_length] at hall
              have HLOC := Lib.hid (fun l hl => (List.all_eq_true.1 hall) l hl)
              have hnl2 : ¬ (r.locs.length : Int) < (r.locs.length : Int) := by omega
              have Q := Lib.hid (rtables_calls r.tab wr)
              unfold tbV tbA at Q
              clear hall hlt hn z
              go_wp2_with fail
              refine Q.out.mono ?_
              rintro e w5 ⟨rfl, a5⟩
              have hbx2 := fun (w' : World) (a : Add (w5.alloc (.cells #[.int .i64 r.tab.hot, .int .i64 r.tab.warm, .int .i64 r.tab.gap, .int .i64 r.tab.add, .int .i64 r.tab.top, .int .i64 r.tab.half] 66)) w') => (show (∀ n (h : n < r.tab.list.length), w'.cell? ⟨w5.heap.size, n, none⟩ = some (.int .i64 r.tab.list[n])) ∧ Add w w' from ⟨fun n h => ((box_cells a).1 n).trans (tab_at r.tab n h), (HR.out _ (Ha.out.trans (a5.trans ((Add.alloc _ _).trans a)))).2⟩)
              have HX := Lib.hid hbx2
              have E := Lib.hid (fun (h : ∀ n ∈ r.tab.list, 0 ≤ n ∧ n ≤ 1000000) => (show rOk r = true from HG.out.2 (good_of (by rw [HK.out]; omega) (by rw [HK.out]; omega) GA.out GB.out GN.out (fun s hm => by
                have q1 := inn_iff.1 ((List.all_eq_true.1 HALL.out) s hm)
                have hq := (show (shp k).sids = 1 from GS.out (by intro h; rw [h] at hm; cases hm))
                omega) GN2.out HLOC.out h)))
              have HT := Lib.hid (fun (n : Int) (hm : n ∈ r.tab.list) (h : inn n 0 1000000 = false) => (show rOk r = false from g_bad HG.out fun g => by
                have q1 := tab_ok g n hm
                rw [inn_no] at h
                omega))
              clear hbx2 a5 Q y0 y4 y6 y7 y8 y9 y10 y11 y12 HALL HLOC GN2 GL GL2 GS GN HR
              go_wp2_with fail
              go_loopw [11] (fun i wr => ∃ n : Nat, n ≤ 6 ∧ i = .int .i64 n ∧ (r.tab.list.take n).all (fun s => inn s 0 1000000) = true ∧ Add (w5.alloc (.cells #[.int .i64 r.tab.hot, .int .i64 r.tab.warm, .int .i64 r.tab.gap, .int .i64 r.tab.add, .int .i64 r.tab.top, .int .i64 r.tab.half] 66)) wr) (fun i => fun _ => 6 - (intOf i).toNat)
              case atStart => exact ⟨0, Nat.zero_le _, rfl, by simp, Add.refl _⟩
              case round =>
                obtain ⟨n, hn, rfl, hall, ha⟩ := hrel
                by_cases hlt : n < 6
                · have hltI : (n : Int) < 6 := by omega
                  have hlt' : n < r.tab.list.length := hlt
                  obtain ⟨x, z⟩ := HX.out _ ha
                  have x0 := x n hlt'
                  have hal : (r.tab.list.take (n + 1)).all (fun s => inn s 0 1000000) = inn r.tab.list[n] 0 1000000 := by rw [List.take_succ_eq_append_getElem hlt', List.all_append, hall]; simp
                  have hmem := List.getElem_mem hlt'
                  generalize r.tab.list[n] = c at *
                  have HAL := Lib.hid hal
                  have HM := Lib.hid hmem
                  have HA := Lib.hid ha
                  clear hal hmem hall ha x z hlt'
                  go_wp2_with fail
                  refine (rin_calls c 0 1000000 _).mono ?_
                  rintro e w6 ⟨rfl, a6⟩
                  have A6 := Lib.hid (Add.trans HA.out a6)
                  clear a6 x0
                  cases e1 : inn c 0 1000000
                  · have E := Lib.hid (HT.out c HM.out e1)
                    clear e1
                    go_wp2_with fail
                    go_ret
                    rw [E.out]
                    exact ⟨rfl, (HX.out _ A6.out).2⟩
                  · have HAL2 := Lib.hid (HAL.out.trans e1)
                    clear e1 HAL
                    go_wp2_with fail
                    go_roundw
                    case rel => exact ⟨n + 1, by omega, by go_num, HAL2.out, A6.out⟩
                    case measure => simp [intOf]; omega
                · have hlt3 : ¬ (n : Int) < 6 := by omega
                  have E2 := Lib.hid (E.out (by
                    rw [List.take_of_length_le (show r.tab.list.length ≤ n by show 6 ≤ n; omega)] at hall
                    exact fun m hm => inn_iff.1 ((List.all_eq_true.1 hall) m hm)))
                  have Z6 := Lib.hid (HX.out _ ha).2
                  clear hall ha hlt hn
                  go_wp2_with fail
                  go_ret
                  rw [E2.out]
                  exact ⟨rfl, Z6.out⟩
end Go.Proofs.Ytnfkcmcchkcflaa.RcD
