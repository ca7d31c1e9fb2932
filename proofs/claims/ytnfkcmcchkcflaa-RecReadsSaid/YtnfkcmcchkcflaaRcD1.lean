/- The document's records: rows compared, records compared. No condition. -/
import Derived.Test.YtnfkcmcchkcflaaRcW2
set_option linter.unusedSimpArgs false
set_option linter.unusedVariables false
namespace Go.Proofs.Ytnfkcmcchkcflaa.RcD
open Go Go.RowKit Go.Proofs.Ytnfkcmcchkcflaa Go.Proofs.Ytnfkcmcchkcflaa.Sp Go.Proofs.Ytnfkcmcchkcflaa.Reg Go.Proofs.Ytnfkcmcchkcflaa.RcM Go.Proofs.Ytnfkcmcchkcflaa.SlW Go.Proofs.Ytnfkcmcchkcflaa.RcW
theorem take_ne {α : Type} {a b : List α} {n : Nat} (h1 : n < a.length) (h2 : n < b.length) (h : a[n] ≠ b[n]) : ¬ a = b := by
  rintro rfl
  exact h rfl
theorem take_step {α : Type} {a b : List α} {n : Nat} (h1 : n < a.length) (h2 : n < b.length) (h : a.take n = b.take n) (e : a[n] = b[n]) : a.take (n + 1) = b.take (n + 1) := by
  rw [List.take_succ_eq_append_getElem h1, List.take_succ_eq_append_getElem h2, h, e]
theorem lc_ne {a b : Lc} (h : a ≠ b) : ¬ a.d = b.d ∨ (a.d = b.d ∧ ¬ a.s = b.s) ∨ (a.d = b.d ∧ a.s = b.s ∧ ¬ a.id = b.id) := by
  obtain ⟨a1, a2, a3⟩ := a
  obtain ⟨b1, b2, b3⟩ := b
  simp only [ne_eq, Lc.mk.injEq, not_and] at h
  by_cases h1 : a1 = b1
  · by_cases h2 : a2 = b2
    · exact .inr (.inr ⟨h1, h2, h h1 h2⟩)
    · exact .inr (.inl ⟨h1, h2⟩)
  · exact .inl h1
set_option maxRecDepth 100000 in
set_option maxHeartbeats 2000000 in
theorem sameints_calls (v1 v2 : Value) (a b : List Int) (w : World) (h1 : IS w v1 a) (h2 : IS w v2 b) : Calls Try.prog 40 #[v1, v2] w (RetA w (.bool (decide (a = b)))) := by
  obtain ⟨a1, c1, rfl, l1, m1, n1, r1⟩ := id h1
  obtain ⟨a2, c2, rfl, l2, m2, n2, r2⟩ := id h2
  have hm : a.length ≤ 9223372036854775807 := by have := m1; unfold maxLen at this; omega
  have H1 := Lib.hid h1
  have H2 := Lib.hid h2
  clear n1 n2 r1 r2 h1 h2
  by_cases hl : a.length = b.length
  case neg =>
    have e : decide (a = b) = false := decide_eq_false (by rintro rfl; exact hl rfl)
    rw [e]
    clear e
    have hl' : ((a.length : Int) != (b.length : Int)) = true := by rw [bne_iff_ne]; omega
    clear hl
    go_enter Try.func40, Try.ntmps40
    go_wp2_with fail
    go_ret
    exact ⟨rfl, Add.refl w⟩
  have hl' : ((a.length : Int) != (b.length : Int)) = false := by rw [hl]; simp
  go_enter Try.func40, Try.ntmps40
  go_wp2_with fail
  go_loopw [5] (fun i wr => ∃ n : Nat, n ≤ a.length ∧ i = .int .i64 n ∧ a.take n = b.take n ∧ Add w wr) (fun i _ => a.length - (intOf i).toNat)
  case atStart => exact ⟨0, Nat.zero_le _, rfl, by simp, Add.refl w⟩
  case round =>
    obtain ⟨n, hn, rfl, ht, ha⟩ := hrel
    by_cases hlt : n < a.length
    · have hltI : (n : Int) < (a.length : Int) := by omega
      have hlt2 : n < b.length := by omega
      have hltI2 : (n : Int) < (b.length : Int) := by omega
      obtain ⟨b1, o1, rfl⟩ := H1.out.head (by omega)
      obtain ⟨b2, o2, rfl⟩ := H2.out.head (by omega)
      have x1 := (H1.out.below ha).cellAt n hlt
      have x2 := (H2.out.below ha).cellAt n hlt2
      have Ha := Lib.hid ha
      clear ha
      by_cases hx : a[n] = b[n]
      · have Ht := Lib.hid (take_step hlt hlt2 ht hx)
        rw [← hx] at x2
        generalize a[n] = c at *
        clear ht hx
        have hcc : (c != c) = false := by simp
        go_wp2_with fail
        go_region
        go_wp2_with fail
        go_roundw
        case rel => exact ⟨n + 1, by omega, by go_num, Ht.out, Ha.out.trans (Add.drew _)⟩
        case measure => simp [intOf]; omega
      · have e : decide (a = b) = false := decide_eq_false (take_ne hlt hlt2 hx)
        rw [e]
        have hx' : (a[n] != b[n]) = true := by rw [bne_iff_ne]; exact hx
        generalize a[n] = c at *
        generalize b[n] = d at *
        clear ht hx e
        go_wp2_with fail
        go_region
        go_wp2_with fail
        go_ret
        exact ⟨rfl, Ha.out.trans (Add.drew _)⟩
    · have He := Lib.hid (show decide (a = b) = true from decide_eq_true (by
        rw [List.take_of_length_le (by omega), List.take_of_length_le (by omega)] at ht
        exact ht))
      have Ha := Lib.hid ha
      have hge : ¬ ((n : Int) < (b.length : Int)) := by omega
      clear hlt ht ha
      go_wp2_with fail
      go_ret
      exact ⟨by rw [He.out]; rfl, Ha.out⟩
set_option maxRecDepth 100000 in
set_option maxHeartbeats 2000000 in
theorem samelocs_calls (v1 v2 : Value) (a b : List Lc) (w : World) (h1 : LS w v1 a) (h2 : LS w v2 b) : Calls Try.prog 41 #[v1, v2] w (RetA w (.bool (decide (a = b)))) := by
  obtain ⟨a1, c1, rfl, l1, m1, n1, r1⟩ := id h1
  obtain ⟨a2, c2, rfl, l2, m2, n2, r2⟩ := id h2
  have hm : a.length ≤ 9223372036854775807 := by have := m1; unfold maxLen at this; omega
  have H1 := Lib.hid h1
  have H2 := Lib.hid h2
  clear n1 n2 r1 r2 h1 h2
  by_cases hl : a.length = b.length
  case neg =>
    have e : decide (a = b) = false := decide_eq_false (by rintro rfl; exact hl rfl)
    rw [e]
    clear e
    have hl' : ((a.length : Int) != (b.length : Int)) = true := by rw [bne_iff_ne]; omega
    clear hl
    go_enter Try.func41, Try.ntmps41
    go_wp2_with fail
    go_ret
    exact ⟨rfl, Add.refl w⟩
  have hl' : ((a.length : Int) != (b.length : Int)) = false := by rw [hl]; simp
  go_enter Try.func41, Try.ntmps41
  go_wp2_with fail
  go_loopw [5] (fun i wr => ∃ n : Nat, n ≤ a.length ∧ i = .int .i64 n ∧ a.take n = b.take n ∧ Add w wr) (fun i _ => a.length - (intOf i).toNat)
  case atStart => exact ⟨0, Nat.zero_le _, rfl, by simp, Add.refl w⟩
  case round =>
    obtain ⟨n, hn, rfl, ht, ha⟩ := hrel
    by_cases hlt : n < a.length
    · have hltI : (n : Int) < (a.length : Int) := by omega
      have hlt2 : n < b.length := by omega
      have hltI2 : (n : Int) < (b.length : Int) := by omega
      obtain ⟨b1, o1, rfl⟩ := H1.out.head (by omega)
      obtain ⟨b2, o2, rfl⟩ := H2.out.head (by omega)
      obtain ⟨x1, y1, z1⟩ := (H1.out.below ha).cellsAt n hlt
      obtain ⟨x2, y2, z2⟩ := (H2.out.below ha).cellsAt n hlt2
      have Ha := Lib.hid ha
      clear ha
      by_cases hx : a[n] = b[n]
      · have Ht := Lib.hid (take_step hlt hlt2 ht hx)
        rw [← hx] at x2 y2 z2
        generalize a[n] = c at *
        clear ht hx
        go_wp2_with fail
        go_region
        go_wp2_with fail
        go_roundw
        case rel => exact ⟨n + 1, by omega, by go_num, Ht.out, Ha.out.trans (Add.drew _)⟩
        case measure => simp [intOf]; omega
      · have e : decide (a = b) = false := decide_eq_false (take_ne hlt hlt2 hx)
        rw [e]
        have hx3 : ¬ a[n].d = b[n].d ∨ (a[n].d = b[n].d ∧ ¬ a[n].s = b[n].s) ∨ (a[n].d = b[n].d ∧ a[n].s = b[n].s ∧ ¬ a[n].id = b[n].id) := lc_ne hx
        generalize a[n] = c at *
        generalize b[n] = d at *
        clear ht hx e
        obtain hd | ⟨hd, hs⟩ | ⟨hd, hs, hi⟩ := hx3
        all_goals
          go_wp2_with fail
          go_region
          go_wp2_with fail
          go_ret
          exact ⟨rfl, Ha.out.trans (Add.drew _)⟩
    · have He := Lib.hid (show decide (a = b) = true from decide_eq_true (by
        rw [List.take_of_length_le (by omega), List.take_of_length_le (by omega)] at ht
        exact ht))
      have Ha := Lib.hid ha
      have hge : ¬ ((n : Int) < (b.length : Int)) := by omega
      clear hlt ht ha
      go_wp2_with fail
      go_ret
      exact ⟨by rw [He.out]; rfl, Ha.out⟩
theorem str_ne {l1 l2 : List UInt8} (h : ¬ l1 = l2) : ¬ ((⟨l1.toArray⟩ : ByteArray) = ⟨l2.toArray⟩) := by
  intro e
  injection e with e
  exact h (by simpa using e)
theorem tb_ne {a b : Tb} (h : ¬ a = b) : ¬ a.hot = b.hot ∨ (a.hot = b.hot ∧ ¬ a.warm = b.warm) ∨ (a.hot = b.hot ∧ a.warm = b.warm ∧ ¬ a.gap = b.gap) ∨ (a.hot = b.hot ∧ a.warm = b.warm ∧ a.gap = b.gap ∧ ¬ a.add = b.add) ∨
    (a.hot = b.hot ∧ a.warm = b.warm ∧ a.gap = b.gap ∧ a.add = b.add ∧ ¬ a.top = b.top) ∨ (a.hot = b.hot ∧ a.warm = b.warm ∧ a.gap = b.gap ∧ a.add = b.add ∧ a.top = b.top ∧ ¬ a.half = b.half) := by
  obtain ⟨a1, a2, a3, a4, a5, a6⟩ := a
  obtain ⟨b1, b2, b3, b4, b5, b6⟩ := b
  simp only [Tb.mk.injEq, not_and] at h
  simp only
  by_cases h1 : a1 = b1 <;> by_cases h2 : a2 = b2 <;> by_cases h3 : a3 = b3 <;> by_cases h4 : a4 = b4 <;> by_cases h5 : a5 = b5 <;> simp_all
theorem rc_eq {r q : Rc} (h0 : r.kind = q.kind) (h1 : r.key = q.key) (h2 : r.n = q.n) (h3 : r.sid = q.sid) (h4 : r.sids = q.sids) (h5 : r.colour = q.colour) (h6 : r.locs = q.locs) (h7 : r.tab = q.tab) : r = q := by
  cases r; cases q
  simp only at h0 h1 h2 h3 h4 h5 h6 h7
  subst h0 h1 h2 h3 h4 h5 h6 h7
  rfl
set_option maxRecDepth 100000 in
set_option maxHeartbeats 8000000 in
theorem samerec_calls (r q : Rc) (s1 l1 s2 l2 : Value) (w : World) (i1 : IS w s1 r.sids) (i2 : IS w s2 q.sids) (j1 : LS w l1 r.locs) (j2 : LS w l2 q.locs) : Calls Try.prog 14 #[rcV r s1 l1, rcV q s2 l2] w (RetA w (.bool (decide (r = q)))) := by
  have hc : ∀ w', Add ((w.alloc (.cells #[.int .i64 r.kind, str r.key, .int .i64 r.n, .int .i64 r.sid, s1, .int .i64 r.colour, l1, .int .i64 r.tab.hot, .int .i64 r.tab.warm, .int .i64 r.tab.gap, .int .i64 r.tab.add, .int .i64 r.tab.top, .int .i64 r.tab.half] 27)).alloc (.cells #[.int .i64 q.kind, str q.key, .int .i64 q.n, .int .i64 q.sid, s2, .int .i64 q.colour, l2, .int .i64 q.tab.hot, .int .i64 q.tab.warm, .int .i64 q.tab.gap, .int .i64 q.tab.add, .int .i64 q.tab.top, .int .i64 q.tab.half] 27)) w' → (∀ i, w'.cell? ⟨w.heap.size, i, none⟩ = (#[.int .i64 r.kind, str r.key, .int .i64 r.n, .int .i64 r.sid, s1, .int .i64 r.colour, l1, .int .i64 r.tab.hot, .int .i64 r.tab.warm, .int .i64 r.tab.gap, .int .i64 r.tab.add, .int .i64 r.tab.top, .int .i64 r.tab.half] : Array Value)[i]?) ∧ (∀ i, w'.cell? ⟨w.heap.size + 1, i, none⟩ = (#[.int .i64 q.kind, str q.key, .int .i64 q.n, .int .i64 q.sid, s2, .int .i64 q.colour, l2, .int .i64 q.tab.hot, .int .i64 q.tab.warm, .int .i64 q.tab.gap, .int .i64 q.tab.add, .int .i64 q.tab.top, .int .i64 q.tab.half] : Array Value)[i]?) ∧ Add w w' := fun w' a => by
    have s := (((St.init w).alloc (.cells #[.int .i64 r.kind, str r.key, .int .i64 r.n, .int .i64 r.sid, s1, .int .i64 r.colour, l1, .int .i64 r.tab.hot, .int .i64 r.tab.warm, .int .i64 r.tab.gap, .int .i64 r.tab.add, .int .i64 r.tab.top, .int .i64 r.tab.half] 27)).alloc (.cells #[.int .i64 q.kind, str q.key, .int .i64 q.n, .int .i64 q.sid, s2, .int .i64 q.colour, l2, .int .i64 q.tab.hot, .int .i64 q.tab.warm, .int .i64 q.tab.gap, .int .i64 q.tab.add, .int .i64 q.tab.top, .int .i64 q.tab.half] 27)).keep a
    rw [show (w.alloc (.cells #[.int .i64 r.kind, str r.key, .int .i64 r.n, .int .i64 r.sid, s1, .int .i64 r.colour, l1, .int .i64 r.tab.hot, .int .i64 r.tab.warm, .int .i64 r.tab.gap, .int .i64 r.tab.add, .int .i64 r.tab.top, .int .i64 r.tab.half] 27 (0, 0))).heap.size = w.heap.size + 1 by simp] at s
    exact ⟨fun i => (s.eq (sep_left_comm _ _ _)).cell i, fun i => s.cell i, s.below⟩
  have K4 := Lib.hid (And.intro i1 i2)
  have K6 := Lib.hid (And.intro j1 j2)
  have Hc := Lib.hid hc
  clear hc
  clear i1 i2 j1 j2
  unfold rcV
  by_cases h0 : r.kind = q.kind
  case neg =>
    have H0 := Lib.hid h0
    clear h0
    have E := Lib.hid (show decide (r = q) = false from decide_eq_false fun h => H0.out (by rw [h]))
    have b0 : (r.kind == q.kind) = false := by have e := H0.out; simp [e]
    go_enter Try.func14, Try.ntmps14
    go_wp2_with fail
    go_ret
    exact ⟨by rw [E.out]; rfl, (Hc.out _ (Add.refl _)).2.2⟩
  have H0 := Lib.hid h0
  clear h0
  by_cases h1 : r.key = q.key
  case neg =>
    have H1 := Lib.hid h1
    clear h1
    have E := Lib.hid (show decide (r = q) = false from decide_eq_false fun h => H1.out (by rw [h]))
    have b0 : (r.kind == q.kind) = true := by have e := H0.out; simp [e]
    have b1 := str_ne H1.out
    go_enter Try.func14, Try.ntmps14
    go_wp2_with fail
    go_ret
    exact ⟨by rw [E.out]; rfl, (Hc.out _ (Add.refl _)).2.2⟩
  have H1 := Lib.hid h1
  clear h1
  by_cases h2 : r.n = q.n
  case neg =>
    have H2 := Lib.hid h2
    clear h2
    have E := Lib.hid (show decide (r = q) = false from decide_eq_false fun h => H2.out (by rw [h]))
    have b0 : (r.kind == q.kind) = true := by have e := H0.out; simp [e]
    have b1 : (⟨r.key.toArray⟩ : ByteArray) = ⟨q.key.toArray⟩ := by rw [H1.out]
    have b2 : (r.n == q.n) = false := by have e := H2.out; simp [e]
    go_enter Try.func14, Try.ntmps14
    go_wp2_with fail
    go_ret
    exact ⟨by rw [E.out]; rfl, (Hc.out _ (Add.refl _)).2.2⟩
  have H2 := Lib.hid h2
  clear h2
  by_cases h3 : r.sid = q.sid
  case neg =>
    have H3 := Lib.hid h3
    clear h3
    have E := Lib.hid (show decide (r = q) = false from decide_eq_false fun h => H3.out (by rw [h]))
    have b0 : (r.kind == q.kind) = true := by have e := H0.out; simp [e]
    have b1 : (⟨r.key.toArray⟩ : ByteArray) = ⟨q.key.toArray⟩ := by rw [H1.out]
    have b2 : (r.n == q.n) = true := by have e := H2.out; simp [e]
    have b3 : (r.sid == q.sid) = false := by have e := H3.out; simp [e]
    go_enter Try.func14, Try.ntmps14
    go_wp2_with fail
    go_ret
    exact ⟨by rw [E.out]; rfl, (Hc.out _ (Add.refl _)).2.2⟩
  have H3 := Lib.hid h3
  clear h3
  by_cases h4 : r.sids = q.sids
  case neg =>
    have H4 := Lib.hid h4
    clear h4
    have E := Lib.hid (show decide (r = q) = false from decide_eq_false fun h => H4.out (by rw [h]))
    have b0 : (r.kind == q.kind) = true := by have e := H0.out; simp [e]
    have b1 : (⟨r.key.toArray⟩ : ByteArray) = ⟨q.key.toArray⟩ := by rw [H1.out]
    have b2 : (r.n == q.n) = true := by have e := H2.out; simp [e]
    have b3 : (r.sid == q.sid) = true := by have e := H3.out; simp [e]
    have b4 : decide (r.sids = q.sids) = false := decide_eq_false H4.out
    have B4 := Lib.hid b4
    clear b4
    go_enter Try.func14, Try.ntmps14
    go_wp2_with fail
    refine (sameints_calls _ _ _ _ _ (K4.out.1.below (Hc.out _ (Add.refl _)).2.2) (K4.out.2.below (Hc.out _ (Add.refl _)).2.2)).mono ?_
    rintro e w3 ⟨rfl, a3⟩
    rw [B4.out]
    obtain ⟨xw3, yw3, zw3⟩ := Hc.out w3 a3
    have c5 := xw3 5
    have d5 := yw3 5
    have c6 := xw3 6
    have d6 := yw3 6
    have c7 := xw3 7
    have d7 := yw3 7
    have c8 := xw3 8
    have d8 := yw3 8
    have c9 := xw3 9
    have d9 := yw3 9
    have c10 := xw3 10
    have d10 := yw3 10
    have c11 := xw3 11
    have d11 := yw3 11
    have c12 := xw3 12
    have d12 := yw3 12
    simp at c5 d5 c6 d6 c7 d7 c8 d8 c9 d9 c10 d10 c11 d11 c12 d12
    have Zw3 := Lib.hid zw3
    clear xw3 yw3 zw3
    have A3 := Lib.hid a3
    clear a3
    go_wp2_with fail
    go_ret
    exact ⟨by rw [E.out]; rfl, Zw3.out⟩
  have H4 := Lib.hid h4
  clear h4
  by_cases h5 : r.colour = q.colour
  case neg =>
    have H5 := Lib.hid h5
    clear h5
    have E := Lib.hid (show decide (r = q) = false from decide_eq_false fun h => H5.out (by rw [h]))
    have b0 : (r.kind == q.kind) = true := by have e := H0.out; simp [e]
    have b1 : (⟨r.key.toArray⟩ : ByteArray) = ⟨q.key.toArray⟩ := by rw [H1.out]
    have b2 : (r.n == q.n) = true := by have e := H2.out; simp [e]
    have b3 : (r.sid == q.sid) = true := by have e := H3.out; simp [e]
    have b4 : decide (r.sids = q.sids) = true := decide_eq_true H4.out
    have b5 : (r.colour == q.colour) = false := by have e := H5.out; simp [e]
    have B4 := Lib.hid b4
    clear b4
    go_enter Try.func14, Try.ntmps14
    go_wp2_with fail
    refine (sameints_calls _ _ _ _ _ (K4.out.1.below (Hc.out _ (Add.refl _)).2.2) (K4.out.2.below (Hc.out _ (Add.refl _)).2.2)).mono ?_
    rintro e w3 ⟨rfl, a3⟩
    rw [B4.out]
    obtain ⟨xw3, yw3, zw3⟩ := Hc.out w3 a3
    have c5 := xw3 5
    have d5 := yw3 5
    have c6 := xw3 6
    have d6 := yw3 6
    have c7 := xw3 7
    have d7 := yw3 7
    have c8 := xw3 8
    have d8 := yw3 8
    have c9 := xw3 9
    have d9 := yw3 9
    have c10 := xw3 10
    have d10 := yw3 10
    have c11 := xw3 11
    have d11 := yw3 11
    have c12 := xw3 12
    have d12 := yw3 12
    simp at c5 d5 c6 d6 c7 d7 c8 d8 c9 d9 c10 d10 c11 d11 c12 d12
    have Zw3 := Lib.hid zw3
    clear xw3 yw3 zw3
    have A3 := Lib.hid a3
    clear a3
    go_wp2_with fail
    go_ret
    exact ⟨by rw [E.out]; rfl, Zw3.out⟩
  have H5 := Lib.hid h5
  clear h5
  by_cases h6 : r.locs = q.locs
  case neg =>
    have H6 := Lib.hid h6
    clear h6
    have E := Lib.hid (show decide (r = q) = false from decide_eq_false fun h => H6.out (by rw [h]))
    have b0 : (r.kind == q.kind) = true := by have e := H0.out; simp [e]
    have b1 : (⟨r.key.toArray⟩ : ByteArray) = ⟨q.key.toArray⟩ := by rw [H1.out]
    have b2 : (r.n == q.n) = true := by have e := H2.out; simp [e]
    have b3 : (r.sid == q.sid) = true := by have e := H3.out; simp [e]
    have b4 : decide (r.sids = q.sids) = true := decide_eq_true H4.out
    have b5 : (r.colour == q.colour) = true := by have e := H5.out; simp [e]
    have b6 : decide (r.locs = q.locs) = false := decide_eq_false H6.out
    have B4 := Lib.hid b4
    clear b4
    have B6 := Lib.hid b6
    clear b6
    go_enter Try.func14, Try.ntmps14
    go_wp2_with fail
    refine (sameints_calls _ _ _ _ _ (K4.out.1.below (Hc.out _ (Add.refl _)).2.2) (K4.out.2.below (Hc.out _ (Add.refl _)).2.2)).mono ?_
    rintro e w3 ⟨rfl, a3⟩
    rw [B4.out]
    obtain ⟨xw3, yw3, zw3⟩ := Hc.out w3 a3
    have c5 := xw3 5
    have d5 := yw3 5
    have c6 := xw3 6
    have d6 := yw3 6
    have c7 := xw3 7
    have d7 := yw3 7
    have c8 := xw3 8
    have d8 := yw3 8
    have c9 := xw3 9
    have d9 := yw3 9
    have c10 := xw3 10
    have d10 := yw3 10
    have c11 := xw3 11
    have d11 := yw3 11
    have c12 := xw3 12
    have d12 := yw3 12
    simp at c5 d5 c6 d6 c7 d7 c8 d8 c9 d9 c10 d10 c11 d11 c12 d12
    have Zw3 := Lib.hid zw3
    clear xw3 yw3 zw3
    have A3 := Lib.hid a3
    clear a3
    go_wp2_with fail
    refine (samelocs_calls _ _ _ _ _ (K6.out.1.below Zw3.out) (K6.out.2.below Zw3.out)).mono ?_
    rintro e w4 ⟨rfl, a4⟩
    rw [B6.out]
    clear c5 d5 c6 d6 c7 d7 c8 d8 c9 d9 c10 d10 c11 d11 c12 d12
    obtain ⟨xw4, yw4, zw4⟩ := Hc.out w4 (A3.out.trans a4)
    have c7 := xw4 7
    have d7 := yw4 7
    have c8 := xw4 8
    have d8 := yw4 8
    have c9 := xw4 9
    have d9 := yw4 9
    have c10 := xw4 10
    have d10 := yw4 10
    have c11 := xw4 11
    have d11 := yw4 11
    have c12 := xw4 12
    have d12 := yw4 12
    simp at c7 d7 c8 d8 c9 d9 c10 d10 c11 d11 c12 d12
    have Zw4 := Lib.hid zw4
    clear xw4 yw4 zw4
    clear a4
    go_wp2_with fail
    go_ret
    exact ⟨by rw [E.out]; rfl, Zw4.out⟩
  have H6 := Lib.hid h6
  clear h6
  by_cases h7 : r.tab = q.tab
  case neg =>
    have H7 := Lib.hid h7
    clear h7
    have E := Lib.hid (show decide (r = q) = false from decide_eq_false fun h => H7.out (by rw [h]))
    have b0 : (r.kind == q.kind) = true := by have e := H0.out; simp [e]
    have b1 : (⟨r.key.toArray⟩ : ByteArray) = ⟨q.key.toArray⟩ := by rw [H1.out]
    have b2 : (r.n == q.n) = true := by have e := H2.out; simp [e]
    have b3 : (r.sid == q.sid) = true := by have e := H3.out; simp [e]
    have b4 : decide (r.sids = q.sids) = true := decide_eq_true H4.out
    have b5 : (r.colour == q.colour) = true := by have e := H5.out; simp [e]
    have b6 : decide (r.locs = q.locs) = true := decide_eq_true H6.out
    have B4 := Lib.hid b4
    clear b4
    have B6 := Lib.hid b6
    clear b6
    go_enter Try.func14, Try.ntmps14
    go_wp2_with fail
    refine (sameints_calls _ _ _ _ _ (K4.out.1.below (Hc.out _ (Add.refl _)).2.2) (K4.out.2.below (Hc.out _ (Add.refl _)).2.2)).mono ?_
    rintro e w3 ⟨rfl, a3⟩
    rw [B4.out]
    obtain ⟨xw3, yw3, zw3⟩ := Hc.out w3 a3
    have c5 := xw3 5
    have d5 := yw3 5
    have c6 := xw3 6
    have d6 := yw3 6
    have c7 := xw3 7
    have d7 := yw3 7
    have c8 := xw3 8
    have d8 := yw3 8
    have c9 := xw3 9
    have d9 := yw3 9
    have c10 := xw3 10
    have d10 := yw3 10
    have c11 := xw3 11
    have d11 := yw3 11
    have c12 := xw3 12
    have d12 := yw3 12
    simp at c5 d5 c6 d6 c7 d7 c8 d8 c9 d9 c10 d10 c11 d11 c12 d12
    have Zw3 := Lib.hid zw3
    clear xw3 yw3 zw3
    have A3 := Lib.hid a3
    clear a3
    go_wp2_with fail
    refine (samelocs_calls _ _ _ _ _ (K6.out.1.below Zw3.out) (K6.out.2.below Zw3.out)).mono ?_
    rintro e w4 ⟨rfl, a4⟩
    rw [B6.out]
    clear c5 d5 c6 d6 c7 d7 c8 d8 c9 d9 c10 d10 c11 d11 c12 d12
    obtain ⟨xw4, yw4, zw4⟩ := Hc.out w4 (A3.out.trans a4)
    have c7 := xw4 7
    have d7 := yw4 7
    have c8 := xw4 8
    have d8 := yw4 8
    have c9 := xw4 9
    have d9 := yw4 9
    have c10 := xw4 10
    have d10 := yw4 10
    have c11 := xw4 11
    have d11 := yw4 11
    have c12 := xw4 12
    have d12 := yw4 12
    simp at c7 d7 c8 d8 c9 d9 c10 d10 c11 d11 c12 d12
    have Zw4 := Lib.hid zw4
    clear xw4 yw4 zw4
    clear a4
    rcases tb_ne H7.out with a | ⟨a, b⟩ | ⟨a, b, c⟩ | ⟨a, b, c, d⟩ | ⟨a, b, c, d, e⟩ | ⟨a, b, c, d, e, f⟩
    all_goals
      go_wp2_with fail
      go_ret
      exact ⟨by rw [E.out]; rfl, Zw4.out⟩
  have H7 := Lib.hid h7
  clear h7
  have E := Lib.hid (show decide (r = q) = true from decide_eq_true (rc_eq H0.out H1.out H2.out H3.out H4.out H5.out H6.out H7.out))
  have b0 : (r.kind == q.kind) = true := by have e := H0.out; simp [e]
  have b1 : (⟨r.key.toArray⟩ : ByteArray) = ⟨q.key.toArray⟩ := by rw [H1.out]
  have b2 : (r.n == q.n) = true := by have e := H2.out; simp [e]
  have b3 : (r.sid == q.sid) = true := by have e := H3.out; simp [e]
  have b4 : decide (r.sids = q.sids) = true := decide_eq_true H4.out
  have b5 : (r.colour == q.colour) = true := by have e := H5.out; simp [e]
  have b6 : decide (r.locs = q.locs) = true := decide_eq_true H6.out
  have B4 := Lib.hid b4
  clear b4
  have B6 := Lib.hid b6
  clear b6
  go_enter Try.func14, Try.ntmps14
  go_wp2_with fail
  refine (sameints_calls _ _ _ _ _ (K4.out.1.below (Hc.out _ (Add.refl _)).2.2) (K4.out.2.below (Hc.out _ (Add.refl _)).2.2)).mono ?_
  rintro e w3 ⟨rfl, a3⟩
  rw [B4.out]
  obtain ⟨xw3, yw3, zw3⟩ := Hc.out w3 a3
  have c5 := xw3 5
  have d5 := yw3 5
  have c6 := xw3 6
  have d6 := yw3 6
  have c7 := xw3 7
  have d7 := yw3 7
  have c8 := xw3 8
  have d8 := yw3 8
  have c9 := xw3 9
  have d9 := yw3 9
  have c10 := xw3 10
  have d10 := yw3 10
  have c11 := xw3 11
  have d11 := yw3 11
  have c12 := xw3 12
  have d12 := yw3 12
  simp at c5 d5 c6 d6 c7 d7 c8 d8 c9 d9 c10 d10 c11 d11 c12 d12
  have Zw3 := Lib.hid zw3
  clear xw3 yw3 zw3
  have A3 := Lib.hid a3
  clear a3
  go_wp2_with fail
  refine (samelocs_calls _ _ _ _ _ (K6.out.1.below Zw3.out) (K6.out.2.below Zw3.out)).mono ?_
  rintro e w4 ⟨rfl, a4⟩
  rw [B6.out]
  clear c5 d5 c6 d6 c7 d7 c8 d8 c9 d9 c10 d10 c11 d11 c12 d12
  obtain ⟨xw4, yw4, zw4⟩ := Hc.out w4 (A3.out.trans a4)
  have c7 := xw4 7
  have d7 := yw4 7
  have c8 := xw4 8
  have d8 := yw4 8
  have c9 := xw4 9
  have d9 := yw4 9
  have c10 := xw4 10
  have d10 := yw4 10
  have c11 := xw4 11
  have d11 := yw4 11
  have c12 := xw4 12
  have d12 := yw4 12
  simp at c7 d7 c8 d8 c9 d9 c10 d10 c11 d11 c12 d12
  have Zw4 := Lib.hid zw4
  clear xw4 yw4 zw4
  clear a4
  have t0 : r.tab.hot = q.tab.hot := by rw [H7.out]
  have t1 : r.tab.warm = q.tab.warm := by rw [H7.out]
  have t2 : r.tab.gap = q.tab.gap := by rw [H7.out]
  have t3 : r.tab.add = q.tab.add := by rw [H7.out]
  have t4 : r.tab.top = q.tab.top := by rw [H7.out]
  have t5 : r.tab.half = q.tab.half := by rw [H7.out]
  go_wp2_with fail
  go_ret
  exact ⟨by rw [E.out]; rfl, Zw4.out⟩
end Go.Proofs.Ytnfkcmcchkcflaa.RcD
