/- Package rec, walked: Decode. No condition. -/
import Derived.Test.YtnfkcmcchkcflaaRcW6
import Derived.Laws.ResultCell
set_option linter.unusedSimpArgs false
set_option linter.unusedVariables false
namespace Go.Proofs.Ytnfkcmcchkcflaa.RcW
open Go Go.RowKit Go.Proofs.Ytnfkcmcchkcflaa Go.Proofs.Ytnfkcmcchkcflaa.Sp Go.Proofs.Ytnfkcmcchkcflaa.Reg Go.Proofs.Ytnfkcmcchkcflaa.RcM Go.Proofs.Ytnfkcmcchkcflaa.SlW Go.Proofs.Ytnfkcmcchkcflaa.Rd
section
variable {B : Nat} {w0 : World} {R : HP}
theorem St.ls {w : World} {lv : Value} {n : Nat} {ls : List Lc} {H : HP} (s : St B w0 w (row 31 3 lv n (ls.flatMap lcC) * H)) : LS w lv ls := by
  have hf : ∀ ls : List Lc, (ls.flatMap lcC).length = ls.length * 3 := fun ls => by
    induction ls with
    | nil => rfl
    | cons a l ih => simp [lcC, ih, Nat.add_mul]
  obtain ⟨hl, h⟩ := s.rowOpen
  rw [hf] at hl
  obtain rfl : n = ls.length := by omega
  obtain ⟨a, c, rfl, h1, h2, h3, h4⟩ := s.rowSlice
  refine ⟨a, c, rfl, h1, h2, h3, s.rowRd⟩
def zeroC : Array Value := (rcC Rc.zero (.slice none 0 0) (.slice none 0 0)).toArray
theorem gRead_key (x : Sh) (k : Int) (l : List UInt8) : (gRead ptk x k l).1.key.length ≤ 255 := by
  show (gKey ptk x l).1.length ≤ 255
  unfold gKey
  split
  · obtain ⟨n, h1, h2⟩ := one_nat l
    rw [h2, Int.toNat_natCast, ptk_len]
    exact h1
  · simp
theorem pr_key (l : List UInt8) : (pr l).key.length ≤ 255 := gRead_key _ _ _
theorem pr_sids (l : List UInt8) : (pr l).sids.length ≤ 3 := by
  show (gSids ptk _ _).1.length ≤ 3
  unfold gSids
  split
  · rw [gMany_len]; omega
  · simp
/-- What Decode tells. -/
def RetD (B : Nat) (w0 : World) (R : HP) (o : Option Rc) (e : Ending) (w' : World) : Prop := ∃ sv lv, e = .returned (.tuple #[rcV (o.getD Rc.zero) sv lv, .bool o.isSome]) ∧
  St B w0 w' (row 3 1 sv (o.getD Rc.zero).sids.length (ivs (o.getD Rc.zero).sids) * (row 31 3 lv (o.getD Rc.zero).locs.length ((o.getD Rc.zero).locs.flatMap lcC) * R))
theorem retD_none {w : World} {H : HP} (s : St B w0 w (H * R)) : RetD B w0 R none (.returned (.tuple #[rcV Rc.zero (.slice none 0 0) (.slice none 0 0), .bool false])) w :=
  ⟨_, _, rfl, (s.right.rowNil 31 3).rowNil 3 1⟩
theorem rOf_no {l : List UInt8} (h : rOk (pr l) = false) : rOf l = none := by simp [rOf, h]
theorem rOf_no2 {l : List UInt8} (h : rBytes (pr l) ≠ l) : rOf l = none := by simp [rOf, h]
theorem rOf_yes {l : List UInt8} (h : rOk (pr l) = true) (h2 : rBytes (pr l) = l) : rOf l = some (pr l) := by simp [rOf, h, h2]
set_option maxHeartbeats 400000 in
theorem equal_calls (v1 v2 : Value) (l1 l2 : List UInt8) (w : World) (h1 : BS w v1 l1) (h2 : BS w v2 l2) : Calls Try.prog 39 #[v1, v2] w (RetA w (.bool (decide (l1 = l2)))) := by
  obtain ⟨a1, c1, rfl, -⟩ := id h1
  obtain ⟨a2, c2, rfl, -⟩ := id h2
  have q1 := run_str (P := Try.prog) Try.underlying32 Try.underlying5 Try.underlying9 h1
  have q2 := run_str (P := Try.prog) Try.underlying32 Try.underlying5 Try.underlying9 h2
  clear h1 h2
  by_cases he : l1 = l2
  · subst he
    go_enter Try.func39, Try.ntmps39
    go_wp2_with fail
    go_ret
    exact ⟨by simp, Add.refl w⟩
  · have hd : decide (l1 = l2) = false := decide_eq_false he
    rw [hd]
    have hne : ¬ ((⟨l1.toArray⟩ : ByteArray) = ⟨l2.toArray⟩) := by
      intro e
      injection e with e
      exact he (by simpa using e)
    clear hd
    have HE := Lib.hid he
    clear he
    go_enter Try.func39, Try.ntmps39
    go_wp2_with fail
    go_ret
    exact ⟨by simp [HE.out], Add.refl w⟩
theorem RdS.keep {p : Nat} {l : List UInt8} {X : HP} {w w' : World} (h : RdS B w0 R p l X w) (a : Add w w') : RdS B w0 R p l X w' := by
  obtain ⟨x, c, hr, s⟩ := h
  exact ⟨x, c, hr, s.keep a⟩
theorem RdS.st {p : Nat} {l : List UInt8} {X : HP} {w : World} (h : RdS B w0 R p l X w) : ∃ Y, St B w0 w (Y * (X * R)) := by
  obtain ⟨x, c, hr, s⟩ := h
  exact ⟨_, s⟩
def rcA (r : Rc) (sv lv : Value) : Array Value := #[.int .i64 r.kind, str r.key, .int .i64 r.n, .int .i64 r.sid, sv, .int .i64 r.colour, lv, .int .i64 r.tab.hot, .int .i64 r.tab.warm, .int .i64 r.tab.gap, .int .i64 r.tab.add, .int .i64 r.tab.top, .int .i64 r.tab.half]
theorem rcV_eq (r : Rc) (sv lv : Value) : rcV r sv lv = .agg (rcA r sv lv) := rfl
/-- The two results: a record's block, a Bool. -/
theorem back2 {fn : Func} {K : Ending → World → Prop} {tmps : Array Value} {w : World} {g : Nat} {cs : Array Value} {b : Bool} (h : fn.results = #[.cell 2 27, .tmp 3]) (h2 : tmps.getD 2 undef = .pointer (some ⟨g, 0, none⟩)) (h3 : tmps.getD 3 undef = .bool b)
    (hg : w.heap[g]? = some (.cells cs 27 (0, 0))) (hs : cs.size = 13) (hK : K (.returned (.tuple #[.agg cs, .bool b])) w) : bodyPost Try.prog fn K .ret ⟨tmps, []⟩ w := by
  refine bodyPost_ret (v := .tuple #[.agg cs, .bool b]) ?_ rfl hK
  have hi : (Try.prog.info? 27).map (·.size) = some cs.size := by rw [hs]; kernel_rfl
  have hld := run_loadVar_row (P := Try.prog) w g 27 27 cs (0, 0) _ hg Try.underlying27 rfl hi
  rw [results_cell_tmp h]
  rw [h2, h3]
  simp [asAddr, Result.andThen, hld]
set_option maxRecDepth 100000 in
set_option maxHeartbeats 16000000 in
theorem decode_calls (A : Option Addr) (cA : Nat) (l : List UInt8) (w : World) (hl : Reads B w0 R (.slice A l.length cA) l) (s : St B w0 w R) : Calls Try.prog 13 #[.slice A l.length cA] w (RetD B w0 R (rOf l)) := by
  have HL := Lib.hid hl
  have S := Lib.hid s
  have hr : RdS B w0 R (w.heap.size + 1) l (pts w.heap.size (.cells #[.int .i64 0, str [], .int .i64 0, .int .i64 0, .slice none 0 0, .int .i64 0, .slice none 0 0, .int .i64 0, .int .i64 0, .int .i64 0, .int .i64 0, .int .i64 0, .int .i64 0] 27 (0, 0))) ((w.alloc (.cells #[.int .i64 0, str [], .int .i64 0, .int .i64 0, .slice none 0 0, .int .i64 0, .slice none 0 0, .int .i64 0, .int .i64 0, .int .i64 0, .int .i64 0, .int .i64 0, .int .i64 0] 27)).alloc (.cells #[.slice A l.length cA] 70)) := by
    have s1 := (s.alloc (.cells #[.int .i64 0, str [], .int .i64 0, .int .i64 0, .slice none 0 0, .int .i64 0, .slice none 0 0, .int .i64 0, .int .i64 0, .int .i64 0, .int .i64 0, .int .i64 0, .int .i64 0] 27)).alloc (.cells #[.slice A l.length cA] 70)
    rw [show (w.alloc (.cells #[.int .i64 0, str [], .int .i64 0, .int .i64 0, .slice none 0 0, .int .i64 0, .slice none 0 0, .int .i64 0, .int .i64 0, .int .i64 0, .int .i64 0, .int .i64 0, .int .i64 0] 27)).heap.size = w.heap.size + 1 by simp] at s1
    exact ⟨A, cA, hl, s1⟩
  have hpr : pr l = (gRead ptk (shp (gNum ptk 1 l).1.toNat) (gNum ptk 1 l).1 (l.drop 1)).1 := rfl
  have q := one_calls _ l _ _ hr
  generalize (gNum ptk 1 l).1 = k0 at q hpr
  generalize l.drop 1 = l1 at q hpr
  have Q := Lib.hid q
  have Hpr := Lib.hid hpr
  clear hpr
  clear hl s hr q
  go_enter Try.func13, Try.ntmps13
  go_wp2_with fail
  refine Q.out.mono ?_
  rintro e w1 ⟨rfl, h1⟩
  have h2 := h1.alloc (.cells #[.int .i64 k0, str [], .int .i64 0, .int .i64 0, .slice none 0 0, .int .i64 0, .slice none 0 0, .int .i64 0, .int .i64 0, .int .i64 0, .int .i64 0, .int .i64 0, .int .i64 0] 27)
  obtain ⟨d1, d2, d3⟩ := h2.front
  have c0 := d1 0
  simp at c0
  have H2 := Lib.hid h2
  clear h1 h2 Q d1 d2 d3
  generalize w.heap.size = p2 at *
  go_wp2_with fail
  refine (in_calls _ _ _ _).mono ?_
  rintro e w3 ⟨rfl, a3⟩
  have h3 := H2.out.keep a3
  obtain ⟨d1, d2, d3⟩ := h3.front
  have c0' := d1 0
  simp at c0'
  have H3 := Lib.hid h3
  clear a3 h3 d1 d2 d3 H2 c0
  generalize hpo : w1.heap.size = po at *
  clear hpo
  cases h0 : inn k0 1 8
  · have HN := Lib.hid (show rOf l = none from rOf_no (by
      rw [Hpr.out]
      show (inn k0 1 8 && _) = false
      rw [h0]; rfl))
    obtain ⟨Y, sY⟩ := H3.out.st
    have SZ := Lib.hid (sY.eq (Q := pts p2 (.cells #[.int .i64 0, str [], .int .i64 0, .int .i64 0, .slice none 0 0, .int .i64 0, .slice none 0 0, .int .i64 0, .int .i64 0, .int .i64 0, .int .i64 0, .int .i64 0, .int .i64 0] 27 (0, 0)) * ((Y * pts po (.cells #[.int .i64 k0, str [], .int .i64 0, .int .i64 0, .slice none 0 0, .int .i64 0, .slice none 0 0, .int .i64 0, .int .i64 0, .int .i64 0, .int .i64 0, .int .i64 0, .int .i64 0] 27 (0, 0))) * R)) (by ac_rfl))
    clear sY H3
    go_upto_region 4 with fail
    refine wp_region_lit ?_
    refine Great.wpList_readTo rfl _ rfl (.agg (rcA Rc.zero (.slice none 0 0) (.slice none 0 0))) (by kernel_rfl) ?_
    refine wpList_store_row rfl 27 (.tmp 2) (.tmp 19) rfl p2 (rcA Rc.zero (.slice none 0 0) (.slice none 0 0)) (by kernel_rfl) (by kernel_rfl) 27 _ SZ.out.block (by kernel_rfl) (by kernel_rfl) (by kernel_rfl) ?_
    refine Great.wpList_readTo rfl _ rfl (.bool false) (by kernel_rfl) (wpList_nil ?_)
    have SF := Lib.hid (SZ.out.setRow (rcA Rc.zero (.slice none 0 0) (.slice none 0 0)))
    go_wp2_with fail
    refine back2 rfl rfl rfl SF.out.block rfl ?_
    rw [HN.out]
    exact retD_none SF.out.right
  · have g0 : 0 ≤ k0 := by have := inn_iff.1 h0; omega
    have g9 : k0 < 9 := by have := inn_iff.1 h0; omega
    have k8 : k0.toNat ≤ 8 := by omega
    go_wp2_with fail
    refine (shapes_calls _).mono ?_
    rintro e w4 ⟨rfl, a4⟩
    have h4 := (H3.out.keep a4).alloc (.cells shapesA 52)
    clear a4 H3 c0'
    simp only []
    go_at_K
    rename_i hK
    refine hK _ _ ?_
    refine Great.wpList_allocTo rfl _ rfl (.pointer (some ⟨w4.heap.size, 0, none⟩)) (.cells zerosA 52) (by kernel_rfl) ?_
    refine wpList_store_row rfl 52 (.tmp 6) (.tmp 20) rfl w4.heap.size shapesA (by kernel_rfl) (by kernel_rfl) 52 zerosA (heap_alloc_last _ _) (by kernel_rfl) (by kernel_rfl) (by kernel_rfl) (wpList_nil ?_)
    rw [World.setRow_alloc_new]
    obtain ⟨d1, -, -⟩ := h4.front
    have hx := fun j (hj : j < 7) => (d1 (k0.toNat * 7 + j)).trans (shapes_at _ j k8 hj)
    have e0 := hx 0 (by omega)
    have e1 := hx 1 (by omega)
    have e2 := hx 2 (by omega)
    have e3 := hx 3 (by omega)
    have e4 := hx 4 (by omega)
    have e5 := hx 5 (by omega)
    have e6 := hx 6 (by omega)
    simp [shC] at e0 e1 e2 e3 e4 e5 e6
    have h5 : RdS B w0 R (p2 + 1) l1 (pts po (.cells #[.int .i64 k0, str [], .int .i64 0, .int .i64 0, .slice none 0 0, .int .i64 0, .slice none 0 0, .int .i64 0, .int .i64 0, .int .i64 0, .int .i64 0, .int .i64 0, .int .i64 0] 27 (0, 0)) * (pts w4.heap.size (.cells shapesA 52 (0, 0)) * pts p2 (.cells #[.int .i64 0, str [], .int .i64 0, .int .i64 0, .slice none 0 0, .int .i64 0, .slice none 0 0, .int .i64 0, .int .i64 0, .int .i64 0, .int .i64 0, .int .i64 0, .int .i64 0] 27 (0, 0)))) (w4.alloc (.cells shapesA 52)) := by
      obtain ⟨x, c, hr, s⟩ := h4
      exact ⟨x, c, hr, s.eq (by ac_rfl)⟩
    obtain ⟨d2, -, -⟩ := h5.front
    have c0 := d2 0
    simp at c0
    have q := read_calls (p2 + 1) po (shp k0.toNat) k0 l1 _ (by have := shp_l2 k0.toNat; omega) _ h5
    unfold shV at q
    generalize hsh : shp k0.toNat = x at *
    have hpr2 := Hpr.out
    have hko : (gRead ptk x k0 l1).1 = pr l := hpr2.symm
    rw [hko] at q
    generalize (gRead ptk x k0 l1).2 = l2 at q
    have Q := Lib.hid q
    clear h4 h5 d1 d2 hx hK k8 q hpr2 hko Hpr hsh
    go_wp2_with fail
    refine Q.out.mono ?_
    rintro e w5 ⟨rfl, bs, sv, lv, a6, c6, hr6, s6⟩
    have hrc := fun i => (XO_front s6).cell i
    have f0 := hrc 0
    have f1 := hrc 1
    have f2 := hrc 2
    have f3 := hrc 3
    have f4 := hrc 4
    have f5 := hrc 5
    have f6 := hrc 6
    have f7 := hrc 7
    have f8 := hrc 8
    have f9 := hrc 9
    have f10 := hrc 10
    have f11 := hrc 11
    have f12 := hrc 12
    simp at f0 f1 f2 f3 f4 f5 f6 f7 f8 f9 f10 f11 f12
    generalize hr : pr l = r at *
    have ho : (rcA r sv lv).all (·.oneCell') = true := by
      obtain ⟨a1, c1, rfl, -⟩ := (St.iS (s6.eq (Q := row 3 1 sv r.sids.length (ivs r.sids) * (rdr (p2 + 1) a6 c6 l2 * (pts bs (.cells #[.bool x.key, .bool x.sid, .bool x.colour, .bool x.table, .int .i64 x.n, .int .i64 x.sids, .int .i64 x.locs] 51 (0, 0)) * (pts po (.cells (rcA r sv lv) 27 (0, 0)) * (row 31 3 lv r.locs.length (r.locs.flatMap lcC) * (pts w4.heap.size (.cells shapesA 52 (0, 0)) * pts p2 (.cells #[.int .i64 0, str [], .int .i64 0, .int .i64 0, .slice none 0 0, .int .i64 0, .slice none 0 0, .int .i64 0, .int .i64 0, .int .i64 0, .int .i64 0, .int .i64 0, .int .i64 0] 27 (0, 0)) * R)))))) (by unfold XO rcA; ac_rfl)))
      obtain ⟨a2, c2, rfl, -⟩ := (St.ls (s6.eq (Q := row 31 3 lv r.locs.length (r.locs.flatMap lcC) * (rdr (p2 + 1) a6 c6 l2 * (pts bs (.cells #[.bool x.key, .bool x.sid, .bool x.colour, .bool x.table, .int .i64 x.n, .int .i64 x.sids, .int .i64 x.locs] 51 (0, 0)) * (pts po (.cells (rcA r (.slice a1 r.sids.length c1) lv) 27 (0, 0)) * (row 3 1 (.slice a1 r.sids.length c1) r.sids.length (ivs r.sids) * (pts w4.heap.size (.cells shapesA 52 (0, 0)) * pts p2 (.cells #[.int .i64 0, str [], .int .i64 0, .int .i64 0, .slice none 0 0, .int .i64 0, .slice none 0 0, .int .i64 0, .int .i64 0, .int .i64 0, .int .i64 0, .int .i64 0, .int .i64 0] 27 (0, 0)) * R)))))) (by unfold XO rcA; ac_rfl)))
      unfold rcA
      simp [Value.oneCell']
    have HO := Lib.hid ho
    clear ho
    have s7 := s6.eq (Q := row 3 1 sv r.sids.length (ivs r.sids) * (row 31 3 lv r.locs.length (r.locs.flatMap lcC) * ((rdr (p2 + 1) a6 c6 l2 * (pts bs (.cells #[.bool x.key, .bool x.sid, .bool x.colour, .bool x.table, .int .i64 x.n, .int .i64 x.sids, .int .i64 x.locs] 51 (0, 0)) * (pts po (.cells (rcA r sv lv) 27 (0, 0)) * (pts w4.heap.size (.cells shapesA 52 (0, 0)) * pts p2 (.cells #[.int .i64 0, str [], .int .i64 0, .int .i64 0, .slice none 0 0, .int .i64 0, .slice none 0 0, .int .i64 0, .int .i64 0, .int .i64 0, .int .i64 0, .int .i64 0, .int .i64 0] 27 (0, 0)))))) * R))) (by unfold XO rcA; ac_rfl)
    have hIS := St.iS s7
    have hLS := St.ls s7.right
    have hok : r.key.length ≤ maxLen := by rw [← hr]; unfold maxLen; have := pr_key l; omega
    have hsl : r.sids.length ≤ 1000000 := by rw [← hr]; have := pr_sids l; omega
    have S7 := Lib.hid s7
    clear s6 hrc hr6 Q e0 e1 e2 e3 e4 e5 e6 c0
    have HR0 := Lib.hid hr
    clear hr
    by_cases hro : rOk r = true
    · have hi : IReads B w0 (row 3 1 sv r.sids.length (ivs r.sids) * (row 31 3 lv r.locs.length (r.locs.flatMap lcC) * ((rdr (p2 + 1) a6 c6 l2 * (pts bs (.cells #[.bool x.key, .bool x.sid, .bool x.colour, .bool x.table, .int .i64 x.n, .int .i64 x.sids, .int .i64 x.locs] 51 (0, 0)) * (pts po (.cells (rcA r sv lv) 27 (0, 0)) * (pts w4.heap.size (.cells shapesA 52 (0, 0)) * pts p2 (.cells #[.int .i64 0, str [], .int .i64 0, .int .i64 0, .slice none 0 0, .int .i64 0, .slice none 0 0, .int .i64 0, .int .i64 0, .int .i64 0, .int .i64 0, .int .i64 0, .int .i64 0] 27 (0, 0)))))) * R))) sv r.sids := fun w H s => St.iS (s.eq (Q := row 3 1 sv r.sids.length (ivs r.sids) * (H * (row 31 3 lv r.locs.length (r.locs.flatMap lcC) * ((rdr (p2 + 1) a6 c6 l2 * (pts bs (.cells #[.bool x.key, .bool x.sid, .bool x.colour, .bool x.table, .int .i64 x.n, .int .i64 x.sids, .int .i64 x.locs] 51 (0, 0)) * (pts po (.cells (rcA r sv lv) 27 (0, 0)) * (pts w4.heap.size (.cells shapesA 52 (0, 0)) * pts p2 (.cells #[.int .i64 0, str [], .int .i64 0, .int .i64 0, .slice none 0 0, .int .i64 0, .slice none 0 0, .int .i64 0, .int .i64 0, .int .i64 0, .int .i64 0, .int .i64 0, .int .i64 0] 27 (0, 0)))))) * R)))) (sep_left_comm _ _ _))
      have hj : LReads B w0 (row 3 1 sv r.sids.length (ivs r.sids) * (row 31 3 lv r.locs.length (r.locs.flatMap lcC) * ((rdr (p2 + 1) a6 c6 l2 * (pts bs (.cells #[.bool x.key, .bool x.sid, .bool x.colour, .bool x.table, .int .i64 x.n, .int .i64 x.sids, .int .i64 x.locs] 51 (0, 0)) * (pts po (.cells (rcA r sv lv) 27 (0, 0)) * (pts w4.heap.size (.cells shapesA 52 (0, 0)) * pts p2 (.cells #[.int .i64 0, str [], .int .i64 0, .int .i64 0, .slice none 0 0, .int .i64 0, .slice none 0 0, .int .i64 0, .int .i64 0, .int .i64 0, .int .i64 0, .int .i64 0, .int .i64 0] 27 (0, 0)))))) * R))) lv r.locs := fun w H s => St.ls (s.eq (Q := row 31 3 lv r.locs.length (r.locs.flatMap lcC) * (H * (row 3 1 sv r.sids.length (ivs r.sids) * ((rdr (p2 + 1) a6 c6 l2 * (pts bs (.cells #[.bool x.key, .bool x.sid, .bool x.colour, .bool x.table, .int .i64 x.n, .int .i64 x.sids, .int .i64 x.locs] 51 (0, 0)) * (pts po (.cells (rcA r sv lv) 27 (0, 0)) * (pts w4.heap.size (.cells shapesA 52 (0, 0)) * pts p2 (.cells #[.int .i64 0, str [], .int .i64 0, .int .i64 0, .slice none 0 0, .int .i64 0, .slice none 0 0, .int .i64 0, .int .i64 0, .int .i64 0, .int .i64 0, .int .i64 0, .int .i64 0] 27 (0, 0)))))) * R)))) (by ac_rfl))
      have q := encode_ok r sv lv w5 hi hj hro s7
      unfold rcV at q
      have Q := Lib.hid q
      clear q hi hj s7 hIS hLS hok hsl
      go_wp2_with fail
      refine Q.out.mono ?_
      rintro e w6 ⟨g6, c7, rfl, s8⟩
      have hbl := HL.out w6 (row 5 1 (.slice (some ⟨g6, 0, none⟩) (rBytes r).length c7) (rBytes r).length (bvs (rBytes r)) * (row 3 1 sv r.sids.length (ivs r.sids) * (row 31 3 lv r.locs.length (r.locs.flatMap lcC) * (rdr (p2 + 1) a6 c6 l2 * (pts bs (.cells #[.bool x.key, .bool x.sid, .bool x.colour, .bool x.table, .int .i64 x.n, .int .i64 x.sids, .int .i64 x.locs] 51 (0, 0)) * (pts po (.cells (rcA r sv lv) 27 (0, 0)) * (pts w4.heap.size (.cells shapesA 52 (0, 0)) * pts p2 (.cells #[.int .i64 0, str [], .int .i64 0, .int .i64 0, .slice none 0 0, .int .i64 0, .slice none 0 0, .int .i64 0, .int .i64 0, .int .i64 0, .int .i64 0, .int .i64 0, .int .i64 0] 27 (0, 0))))))))) (s8.eq (by ac_rfl))
      have QE := Lib.hid (equal_calls _ _ _ _ w6 s8.bs hbl)
      have S8 := Lib.hid s8
      clear s8 hbl Q S7 f0 f1 f2 f3 f4 f5 f6 f7 f8 f9 f10 f11 f12
      go_wp2_with fail
      refine QE.out.mono ?_
      rintro e w7 ⟨rfl, z7⟩
      have s9 := S8.out.keep z7
      have SZ := Lib.hid (s9.eq (Q := pts p2 (.cells #[.int .i64 0, str [], .int .i64 0, .int .i64 0, .slice none 0 0, .int .i64 0, .slice none 0 0, .int .i64 0, .int .i64 0, .int .i64 0, .int .i64 0, .int .i64 0, .int .i64 0] 27 (0, 0)) * ((row 5 1 (.slice (some ⟨g6, 0, none⟩) (rBytes r).length c7) (rBytes r).length (bvs (rBytes r)) * (row 3 1 sv r.sids.length (ivs r.sids) * (row 31 3 lv r.locs.length (r.locs.flatMap lcC) * (rdr (p2 + 1) a6 c6 l2 * (pts bs (.cells #[.bool x.key, .bool x.sid, .bool x.colour, .bool x.table, .int .i64 x.n, .int .i64 x.sids, .int .i64 x.locs] 51 (0, 0)) * (pts po (.cells (rcA r sv lv) 27 (0, 0)) * pts w4.heap.size (.cells shapesA 52 (0, 0)))))))) * R)) (by ac_rfl))
      have SPO := Lib.hid (s9.eq (Q := pts po (.cells (rcA r sv lv) 27 (0, 0)) * ((row 5 1 (.slice (some ⟨g6, 0, none⟩) (rBytes r).length c7) (rBytes r).length (bvs (rBytes r)) * (row 3 1 sv r.sids.length (ivs r.sids) * (row 31 3 lv r.locs.length (r.locs.flatMap lcC) * (rdr (p2 + 1) a6 c6 l2 * (pts bs (.cells #[.bool x.key, .bool x.sid, .bool x.colour, .bool x.table, .int .i64 x.n, .int .i64 x.sids, .int .i64 x.locs] 51 (0, 0)) * (pts w4.heap.size (.cells shapesA 52 (0, 0)) * pts p2 (.cells #[.int .i64 0, str [], .int .i64 0, .int .i64 0, .slice none 0 0, .int .i64 0, .slice none 0 0, .int .i64 0, .int .i64 0, .int .i64 0, .int .i64 0, .int .i64 0, .int .i64 0] 27 (0, 0)))))))) * R)) (by ac_rfl))
      clear s9 z7 QE S8
      cases heq : decide (rBytes r = l)
      · have HN := Lib.hid (show rOf l = none from rOf_no2 (by rw [HR0.out]; exact of_decide_eq_false heq))
        clear SPO
        go_upto_region 9 with fail
        refine wp_region_lit ?_
        refine Great.wpList_readTo rfl _ rfl (.agg (rcA Rc.zero (.slice none 0 0) (.slice none 0 0))) (by kernel_rfl) ?_
        refine wpList_store_row rfl 27 (.tmp 2) (.tmp 40) rfl p2 (rcA Rc.zero (.slice none 0 0) (.slice none 0 0)) (by kernel_rfl) (by kernel_rfl) 27 _ SZ.out.block (by kernel_rfl) (by kernel_rfl) (by kernel_rfl) ?_
        refine Great.wpList_readTo rfl _ rfl (.bool false) (by kernel_rfl) (wpList_nil ?_)
        have SF := Lib.hid (SZ.out.setRow (rcA Rc.zero (.slice none 0 0) (.slice none 0 0)))
        go_wp2_with fail
        refine back2 rfl rfl rfl SF.out.block rfl ?_
        rw [HN.out]
        exact retD_none SF.out.right
      · have HN := Lib.hid (show rOf l = some r from (rOf_yes (by rw [HR0.out]; exact hro) (by rw [HR0.out]; exact of_decide_eq_true heq)).trans (by rw [HR0.out]))
        go_upto_region 10 with fail
        refine wp_region_lit ?_
        refine wpList_load_row rfl 27 (.tmp 5) rfl po (by kernel_rfl) 27 (rcA r sv lv) (0, 0) _ SPO.out.block Try.underlying27 rfl (by kernel_rfl) ?_
        refine wpList_store_row rfl 27 (.tmp 2) (.tmp 41) rfl p2 (rcA r sv lv) (by kernel_rfl) (by kernel_rfl) 27 _ SZ.out.block (by kernel_rfl) (by kernel_rfl) HO.out ?_
        refine Great.wpList_readTo rfl _ rfl (.bool true) (by kernel_rfl) (wpList_nil ?_)
        have SF := Lib.hid (SZ.out.setRow (rcA r sv lv))
        go_wp2_with fail
        refine back2 rfl rfl rfl SF.out.block rfl ?_
        rw [HN.out]
        exact ⟨sv, lv, rfl, (SF.out.eq (Q := (pts p2 (.cells (rcA r sv lv) 27 (0, 0)) * (row 5 1 (.slice (some ⟨g6, 0, none⟩) (rBytes r).length c7) (rBytes r).length (bvs (rBytes r)) * (rdr (p2 + 1) a6 c6 l2 * (pts bs (.cells #[.bool x.key, .bool x.sid, .bool x.colour, .bool x.table, .int .i64 x.n, .int .i64 x.sids, .int .i64 x.locs] 51 (0, 0)) * (pts po (.cells (rcA r sv lv) 27 (0, 0)) * pts w4.heap.size (.cells shapesA 52 (0, 0))))))) * (row 3 1 sv r.sids.length (ivs r.sids) * (row 31 3 lv r.locs.length (r.locs.flatMap lcC) * R))) (by ac_rfl)).right⟩
    · have hro' : rOk r = false := by simpa using hro
      have HN := Lib.hid (show rOf l = none from rOf_no (by rw [HR0.out]; exact hro'))
      have q := encode_no r sv lv w5 hIS hLS hok hsl hro'
      unfold rcV at q
      have Q := Lib.hid q
      clear hIS hLS q hro hro' hok hsl s7
      go_wp2_with fail
      refine Q.out.mono ?_
      rintro e w6 ⟨rfl, z6⟩
      have SZ := Lib.hid ((S7.out.keep z6).eq (Q := pts p2 (.cells #[.int .i64 0, str [], .int .i64 0, .int .i64 0, .slice none 0 0, .int .i64 0, .slice none 0 0, .int .i64 0, .int .i64 0, .int .i64 0, .int .i64 0, .int .i64 0, .int .i64 0] 27 (0, 0)) * ((row 3 1 sv r.sids.length (ivs r.sids) * (row 31 3 lv r.locs.length (r.locs.flatMap lcC) * (rdr (p2 + 1) a6 c6 l2 * (pts bs (.cells #[.bool x.key, .bool x.sid, .bool x.colour, .bool x.table, .int .i64 x.n, .int .i64 x.sids, .int .i64 x.locs] 51 (0, 0)) * (pts po (.cells (rcA r sv lv) 27 (0, 0)) * pts w4.heap.size (.cells shapesA 52 (0, 0))))))) * R)) (by ac_rfl))
      clear z6 S7 Q
      go_upto_region 9 with fail
      refine wp_region_lit ?_
      refine Great.wpList_readTo rfl _ rfl (.agg (rcA Rc.zero (.slice none 0 0) (.slice none 0 0))) (by kernel_rfl) ?_
      refine wpList_store_row rfl 27 (.tmp 2) (.tmp 40) rfl p2 (rcA Rc.zero (.slice none 0 0) (.slice none 0 0)) (by kernel_rfl) (by kernel_rfl) 27 _ SZ.out.block (by kernel_rfl) (by kernel_rfl) (by kernel_rfl) ?_
      refine Great.wpList_readTo rfl _ rfl (.bool false) (by kernel_rfl) (wpList_nil ?_)
      have SF := Lib.hid (SZ.out.setRow (rcA Rc.zero (.slice none 0 0) (.slice none 0 0)))
      go_wp2_with fail
      refine back2 rfl rfl rfl SF.out.block rfl ?_
      rw [HN.out]
      exact retD_none SF.out.right
end
end Go.Proofs.Ytnfkcmcchkcflaa.RcW
