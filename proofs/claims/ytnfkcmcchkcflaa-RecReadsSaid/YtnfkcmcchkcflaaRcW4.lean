/- Package rec, walked: Encode. No condition. -/
import Derived.Test.YtnfkcmcchkcflaaRcW3
import Derived.Test.YtnfkcmcchkcflaaRws
import Derived.Deep.DeepCutAuto
import Derived.Deep.CutRange
set_option linter.unusedSimpArgs false
set_option linter.unusedVariables false
namespace Go.Proofs.Ytnfkcmcchkcflaa.RcW
open Go Go.RowKit Go.Proofs.Ytnfkcmcchkcflaa Go.Proofs.Ytnfkcmcchkcflaa.Sp Go.Proofs.Ytnfkcmcchkcflaa.Reg Go.Proofs.Ytnfkcmcchkcflaa.RcM Go.Proofs.Ytnfkcmcchkcflaa.SlW
section
variable {B : Nat} {w0 : World} {R : HP}
/-- A row of bytes of the call's own. -/
def RA (B : Nat) (w0 : World) (v : Value) (bs : List UInt8) (R : HP) (w : World) : Prop := ∃ g c, v = .slice (some ⟨g, 0, none⟩) bs.length c ∧ St B w0 w (row 5 1 (.slice (some ⟨g, 0, none⟩) bs.length c) bs.length (bvs bs) * R)
/-- Where append(C, xs..) and what is done with it stand. -/
def XJ (B : Nat) (w0 : World) (g0 c0 : Nat) (C xs D : List UInt8) (R : HP) (j : Nat) (vs : Nat → Value) (w : World) : Prop := match j with
  | 0 => St B w0 w (row 5 1 (.slice (some ⟨g0, 0, none⟩) C.length c0) C.length (bvs C) * R)
  | 1 => ∃ g, vs 0 = .slice (some ⟨g, 0, none⟩) xs.length xs.length ∧ St B w0 w (row 5 1 (.slice (some ⟨g0, 0, none⟩) C.length c0) C.length (bvs C) * (pts g (.cells (bvs xs).toArray 5 (0, 0)) * R))
  | 2 => RA B w0 (vs 1) (C ++ xs) R w
  | 3 => RA B w0 (vs 2) D R w
  | _ => RA B w0 (vs 3) D R w
theorem XJ.st {g0 c0 : Nat} {C xs D : List UInt8} : ∀ {j : Nat} {vs : Nat → Value} {w : World}, XJ B w0 g0 c0 C xs D R j vs w → ∃ X, St B w0 w (X * R)
  | 0, _, _, h => ⟨_, h⟩
  | 1, _, _, ⟨_, _, h⟩ => ⟨_, h.eq (sep_assoc _ _ _).symm⟩
  | 2, _, _, ⟨_, _, _, h⟩ => ⟨_, h⟩
  | 3, _, _, ⟨_, _, _, h⟩ => ⟨_, h⟩
  | _ + 4, _, _, ⟨_, _, _, h⟩ => ⟨_, h⟩
theorem XJ.lit1 {g0 c0 : Nat} {C D : List UInt8} {x : UInt8} {ρ : Operand → Value} {o : Oper} {vs : Nat → Value} {w : World} {y : Operand} (hop : o.op = .buildSlice 32 1 #[(0, y)]) (hy : ρ y = bv x) (hJ : XJ B w0 g0 c0 C [x] D R 0 vs w) :
    ∃ v w', (execOp ρ o).run Try.prog w = .ok (.value v) w' ∧ XJ B w0 g0 c0 C [x] D R 1 (updv vs 0 v) w' := by
  refine ⟨.slice (some ⟨w.heap.size, 0, none⟩) 1 1, w.alloc (.cells #[bv x] 5), ?_, w.heap.size, by simp [updv], (St.alloc hJ _).eq (sep_left_comm _ _ _)⟩
  simp [execOp, hop, hy, go_sem]
theorem XJ.lit2 {g0 c0 : Nat} {C D : List UInt8} {x x2 : UInt8} {ρ : Operand → Value} {o : Oper} {vs : Nat → Value} {w : World} {y y2 : Operand} (hop : o.op = .buildSlice 32 2 #[(0, y), (1, y2)]) (hy : ρ y = bv x) (hy2 : ρ y2 = bv x2) (hJ : XJ B w0 g0 c0 C [x, x2] D R 0 vs w) :
    ∃ v w', (execOp ρ o).run Try.prog w = .ok (.value v) w' ∧ XJ B w0 g0 c0 C [x, x2] D R 1 (updv vs 0 v) w' := by
  refine ⟨.slice (some ⟨w.heap.size, 0, none⟩) 2 2, w.alloc (.cells #[bv x, bv x2] 5), ?_, w.heap.size, by simp [updv], (St.alloc hJ _).eq (sep_left_comm _ _ _)⟩
  simp [execOp, hop, hy, hy2, go_sem]
theorem XJ.app {g0 c0 : Nat} {C xs D : List UInt8} {ρ : Operand → Value} {o : Oper} {vs : Nat → Value} {w : World} {x y : Operand} (hop : o.op = .call { callee := .builtin .append, args := #[x, y], argTypes := #[32, 32] })
    (hx : ρ x = .slice (some ⟨g0, 0, none⟩) C.length c0) (hy : ρ y = vs 0) (hl : C.length ≤ 1000) (hl2 : xs.length ≤ 1000) (hpos : 0 < xs.length) (hJ : XJ B w0 g0 c0 C xs D R 1 vs w) :
    ∃ v w', (execOp ρ o).run Try.prog w = .ok (.value v) w' ∧ XJ B w0 g0 c0 C xs D R 2 (updv vs 1 v) w' := by
  obtain ⟨g, e, s⟩ := hJ
  have hrd : Rd w (some ⟨g, 0, none⟩) (bvs xs) := by
    have h := (s.eq (sep_left_comm _ _ _)).rd 0 xs.length
    have hx : (bvs xs).length = xs.length := by simp [bvs]
    have e : ((bvs xs).toArray.toList.drop 0).take xs.length = bvs xs := by
      rw [List.drop_zero, ← hx]; exact List.take_length
    rw [e] at h
    exact h
  have hx1 : (bvs xs).length = xs.length * 1 := by simp [bvs]
  obtain ⟨v', w', hr, s2, -⟩ := run_append_st (P := Try.prog) tB o.type s (some ⟨g, 0, none⟩) xs.length xs.length (bvs xs) hrd (fun e => by cases e) hx1 (bvs_one _) (by unfold maxLen; omega) (by omega)
  rw [show bvs C ++ bvs xs = bvs (C ++ xs) by simp [bvs]] at s2
  have s3 := (s2.eq (sep_left_comm _ _ _)).right
  rw [← List.length_append] at s3
  obtain ⟨a, c, rfl, -⟩ := s3.rowSlice
  obtain ⟨g3, rfl⟩ := row_head s3 (by rw [List.length_append]; omega)
  refine ⟨.slice (some ⟨g3, 0, none⟩) (C ++ xs).length c, w', ?_, g3, c, by simp [updv], s3⟩
  have hr' := hr
  simp at hr'
  simp [execOp, hop, resolve, invoke, builtin, hx, hy, e, hr', Result.andThen]
theorem XJ.appS {g0 c0 : Nat} {C xs l : List UInt8} {ρ : Operand → Value} {o : Oper} {vs : Nat → Value} {w : World} {x y : Operand} (hop : o.op = .call { callee := .builtin .append, args := #[x, y], argTypes := #[32, 9] })
    (hx : ρ x = vs 1) (hy : ρ y = str l) (hl : C.length ≤ 1000) (hl2 : xs.length ≤ 1000) (hl3 : l.length ≤ 1000) (hpos : 0 < xs.length) (hJ : XJ B w0 g0 c0 C xs (C ++ xs ++ l) R 2 vs w) :
    ∃ v w', (execOp ρ o).run Try.prog w = .ok (.value v) w' ∧ XJ B w0 g0 c0 C xs (C ++ xs ++ l) R 3 (updv vs 2 v) w' := by
  obtain ⟨g, c, e, s⟩ := hJ
  obtain ⟨a2, c2, w', hr, s2⟩ := run_appendS_st (P := Try.prog) (l := l) tB Try.underlying9 o.type (by simp) s (by rw [List.length_append]; omega)
  obtain ⟨g3, rfl⟩ := row_head s2 (by rw [List.length_append, List.length_append]; omega)
  refine ⟨.slice (some ⟨g3, 0, none⟩) (C ++ xs ++ l).length c2, w', ?_, g3, c2, by simp [updv], s2⟩
  have hr' := hr
  simp at hr'
  simp [execOp, hop, resolve, invoke, builtin, hx, hy, e, hr', Result.andThen]
theorem XJ.num {g0 c0 : Nat} {C xs : List UInt8} {id : Int} {ρ : Operand → Value} {vs : Nat → Value} {w : World} {y z : Operand} (hy : ρ y = vs 1) (hz : ρ z = .int .i64 id) (h0 : 0 ≤ id) (h1 : id ≤ 2147483647) (hl : (C ++ xs).length ≤ 1000)
    (hJ : XJ B w0 g0 c0 C xs (C ++ xs ++ be4 id) R 2 vs w) :
    ∃ args, [y, z].map ρ = args ∧ (callFunc 28 args.toArray).run Try.prog w = .ok (.enter 28 args.toArray) w ∧ Calls Try.prog 28 args.toArray w fun e w' => ∃ v, e = .returned v ∧ XJ B w0 g0 c0 C xs (C ++ xs ++ be4 id) R 3 (updv vs 2 v) w' := by
  obtain ⟨g, c, e, s⟩ := hJ
  refine ⟨[.slice (some ⟨g, 0, none⟩) (C ++ xs).length c, .int .i64 id], by simp [hy, hz, e], rfl, (number_calls g c (C ++ xs) id h0 h1 hl w s).mono ?_⟩
  rintro e w' ⟨g3, c3, rfl, s3⟩
  exact ⟨_, rfl, g3, c3, by simp [updv], s3⟩
theorem XJ.asg {g0 c0 : Nat} {C xs D : List UInt8} {ρ : Operand → Value} {o : Oper} {vs : Nat → Value} {w : World} {x : Operand} (hop : o.op = .assign x) (hx : ρ x = vs 2) (hJ : XJ B w0 g0 c0 C xs D R 3 vs w) :
    ∃ v w', (execOp ρ o).run Try.prog w = .ok (.value v) w' ∧ XJ B w0 g0 c0 C xs D R 4 (updv vs 3 v) w' := by
  obtain ⟨g, c, e, s⟩ := hJ
  refine ⟨.slice (some ⟨g, 0, none⟩) D.length c, w, ?_, g, c, by simp [updv], s⟩
  simp [execOp, hop, hx, e]
set_option maxRecDepth 100000 in
set_option maxHeartbeats 4000000 in
theorem encode_no (r : Rc) (sv lv : Value) (w : World) (hs : IS w sv r.sids) (hl : LS w lv r.locs) (hk : r.key.length ≤ maxLen) (hn : r.sids.length ≤ 1000000) (hok : rOk r = false) : Calls Try.prog 9 #[rcV r sv lv] w (RetA w (.tuple #[.slice none 0 0, .bool false])) := by
  have hq := fun (w1 : World) (a : Add w w1) => ok_calls r sv lv w1 (hs.below a) (hl.below a) hk hn
  rw [hok] at hq
  have hbx := fun (w1 : World) (a : Add (w.alloc (.cells #[.int .i64 r.kind, str r.key, .int .i64 r.n, .int .i64 r.sid, sv, .int .i64 r.colour, lv, .int .i64 r.tab.hot, .int .i64 r.tab.warm, .int .i64 r.tab.gap, .int .i64 r.tab.add, .int .i64 r.tab.top, .int .i64 r.tab.half] 27)) w1) => box_cells a
  unfold rcV at *
  have Hq := Lib.hid hq
  have Hbx := Lib.hid hbx
  clear hq hbx
  clear hs hl
  go_enter Try.func9, Try.ntmps9
  go_wp2_with fail
  refine (Hq.out _ (Add.alloc _ _)).mono ?_
  rintro e w1 ⟨rfl, a1⟩
  have A1 := Lib.hid (Hbx.out _ a1).2
  clear a1 Hq Hbx
  go_wp2_with fail
  go_ret2
  exact ⟨rfl, A1.out⟩
/-- A record's bytes in a row of the call's own. -/
def RetE (B : Nat) (w0 : World) (R : HP) (bs : List UInt8) (e : Ending) (w' : World) : Prop := ∃ g c, e = .returned (.tuple #[.slice (some ⟨g, 0, none⟩) bs.length c, .bool true]) ∧ St B w0 w' (row 5 1 (.slice (some ⟨g, 0, none⟩) bs.length c) bs.length (bvs bs) * R)
def LReads (B : Nat) (w0 : World) (R : HP) (v : Value) (ls : List Lc) : Prop := ∀ w H, St B w0 w (H * R) → LS w v ls
theorem flat_succ {α : Type} (f : α → List UInt8) (l : List α) (n : Nat) (h : n < l.length) : (l.take (n + 1)).flatMap f = (l.take n).flatMap f ++ f l[n] := by
  rw [List.take_succ_eq_append_getElem h, List.flatMap_append]
  simp only [List.flatMap_cons, List.flatMap_nil, List.append_nil]
theorem wrap8 {n : Int} (h0 : 0 ≤ n) (h1 : n < 256) : IntKind.u8.wrap n = n := by rw [IntKind.wrap_u8]; omega
theorem len_str (l : List UInt8) : (⟨l.toArray⟩ : ByteArray).size = l.length := by simp [ByteArray.size]
/-- Encode's own variables: a shape, the record, all shapes. -/
def EX (bs br ba : Nat) (x : Sh) (r : Rc) (sv lv : Value) (R : HP) : HP := pts bs (.cells #[.bool x.key, .bool x.sid, .bool x.colour, .bool x.table, .int .i64 x.n, .int .i64 x.sids, .int .i64 x.locs] 51 (0, 0)) * (pts br (.cells #[.int .i64 r.kind, str r.key, .int .i64 r.n, .int .i64 r.sid, sv, .int .i64 r.colour, lv, .int .i64 r.tab.hot, .int .i64 r.tab.warm, .int .i64 r.tab.gap, .int .i64 r.tab.add, .int .i64 r.tab.top, .int .i64 r.tab.half] 27 (0, 0)) * (pts ba (.cells shapesA 52 (0, 0)) * R))
theorem EX_cells {bs br ba : Nat} {x : Sh} {r : Rc} {sv lv : Value} {w : World} {X : HP} (s : St B w0 w (X * EX bs br ba x r sv lv R)) :
    (∀ i, w.cell? ⟨bs, i, none⟩ = (#[.bool x.key, .bool x.sid, .bool x.colour, .bool x.table, .int .i64 x.n, .int .i64 x.sids, .int .i64 x.locs] : Array Value)[i]?) ∧ (∀ i, w.cell? ⟨br, i, none⟩ = (#[.int .i64 r.kind, str r.key, .int .i64 r.n, .int .i64 r.sid, sv, .int .i64 r.colour, lv, .int .i64 r.tab.hot, .int .i64 r.tab.warm, .int .i64 r.tab.gap, .int .i64 r.tab.add, .int .i64 r.tab.top, .int .i64 r.tab.half] : Array Value)[i]?) :=
  ⟨fun i => s.right.cell i, fun i => (s.right.right).cell i⟩
theorem EX_base {bs br ba : Nat} {x : Sh} {r : Rc} {sv lv : Value} {w : World} {X : HP} (s : St B w0 w (X * EX bs br ba x r sv lv R)) : ∃ H, St B w0 w (H * R) :=
  ⟨emp, s.right.right.right.right.addEmp⟩
theorem EX_drop {bs br ba : Nat} {x : Sh} {r : Rc} {sv lv : Value} {w : World} {X : HP} (s : St B w0 w (X * EX bs br ba x r sv lv R)) : St B w0 w (X * R) := by
  unfold EX at s
  rw [sep_left_comm X, sep_left_comm X, sep_left_comm X] at s
  exact s.right.right.right
set_option maxRecDepth 100000 in
set_option maxHeartbeats 16000000 in
theorem encode_ok (r : Rc) (sv lv : Value) (w : World) (hs : IReads B w0 R sv r.sids) (hl : LReads B w0 R lv r.locs) (hok : rOk r = true) (s : St B w0 w R) : Calls Try.prog 9 #[rcV r sv lv] w (RetE B w0 R (rBytes r)) := by
  have g := (good_iff r).1 hok
  have k1 := g.k0
  have k8 := g.k1
  have hE := rBytes_eq r
  have hx6 := shp_l2 r.kind.toNat
  have hxn := shp_n r.kind.toNat
  have hlen := rBytes_len hok
  have hns : r.sids.length ≤ 3 := by have h := g.ns; split at h <;> omega
  have hnl : r.locs.length ≤ 6 := by have := cnt6 (x := shp r.kind.toNat) hns hx6; rw [g.nl]; exact this
  have hkl : r.key.length ≤ 16 := by
    cases e : (shp r.kind.toNat).key
    · rw [g.key0 e]; simp
    · have h := g.key e; simp only [keyOk, Bool.and_eq_true, decide_eq_true_eq] at h; omega
  have hq := ok_calls r sv lv _ ((hs _ (pts w.heap.size (.cells #[.int .i64 r.kind, str r.key, .int .i64 r.n, .int .i64 r.sid, sv, .int .i64 r.colour, lv, .int .i64 r.tab.hot, .int .i64 r.tab.warm, .int .i64 r.tab.gap, .int .i64 r.tab.add, .int .i64 r.tab.top, .int .i64 r.tab.half] 27 (0, 0))) (s.alloc _))) ((hl _ (pts w.heap.size (.cells #[.int .i64 r.kind, str r.key, .int .i64 r.n, .int .i64 r.sid, sv, .int .i64 r.colour, lv, .int .i64 r.tab.hot, .int .i64 r.tab.warm, .int .i64 r.tab.gap, .int .i64 r.tab.add, .int .i64 r.tab.top, .int .i64 r.tab.half] 27 (0, 0))) (s.alloc _))) (by unfold maxLen; omega) (by omega)
  rw [hok] at hq
  have hat := fun j (hj : j < 7) => shapes_at r.kind.toNat j (by omega) hj
  generalize hx : shp r.kind.toNat = x at *
  unfold rcV at *
  have Hs := Lib.hid hs
  have Hl := Lib.hid hl
  have G := Lib.hid g
  have S := Lib.hid s
  have Hq := Lib.hid hq
  have HE := Lib.hid hE
  have Hx := Lib.hid hx
  have Hlen := Lib.hid hlen
  have Hx6 := Lib.hid hx6
  have Hxn := Lib.hid hxn
  clear hq hE hx hlen hx6 hxn
  clear hs hl g s hok
  have hsb : ∀ s ∈ r.sids, 0 ≤ s ∧ s ≤ 2147483647 := fun s hm => by
    have h1 := G.out.ns
    have h2 := G.out.sids s hm
    split at h1
    · omega
    · rw [List.eq_nil_of_length_eq_zero h1] at hm; simp at hm
  have hlb : ∀ l ∈ r.locs, (0 ≤ l.d ∧ l.d ≤ 23) ∧ (0 ≤ l.s ∧ l.s ≤ 63) ∧ 0 ≤ l.id ∧ l.id ≤ 2147483647 := fun l hm => by
    have h := G.out.locs l hm
    simp only [lcOk, inn, Bool.and_eq_true, decide_eq_true_eq] at h
    omega
  have Hsb := Lib.hid hsb
  have Hlb := Lib.hid hlb
  clear hsb hlb
  obtain ⟨sa, sc, esv, hsc1, hsc2, -, -⟩ := Hs.out _ _ S.out.addEmp
  obtain ⟨la, lc, elv, hlc1, hlc2, -, -⟩ := Hl.out _ _ S.out.addEmp
  subst esv elv
  unfold maxLen at hsc2 hlc2
  go_enter Try.func9, Try.ntmps9
  go_wp2_with fail
  refine Hq.out.mono ?_
  rintro e w1 ⟨rfl, a1⟩
  have s1 := (S.out.alloc (.cells #[.int .i64 r.kind, str r.key, .int .i64 r.n, .int .i64 r.sid, .slice sa r.sids.length sc, .int .i64 r.colour, .slice la r.locs.length lc, .int .i64 r.tab.hot, .int .i64 r.tab.warm, .int .i64 r.tab.gap, .int .i64 r.tab.add, .int .i64 r.tab.top, .int .i64 r.tab.half] 27)).keep a1
  have c0 := s1.cell 0
  simp at c0
  have S1 := Lib.hid s1
  clear s1 a1 Hq S
  go_wp2_with fail
  refine (shapes_calls _).mono ?_
  rintro e w2 ⟨rfl, a2⟩
  have s2 := (S1.out.keep a2).alloc (.cells shapesA 52)
  clear a2 S1 c0
  simp only []
  go_at_K
  rename_i hK
  refine hK _ _ ?_
  refine Great.wpList_allocTo rfl _ rfl (.pointer (some ⟨w2.heap.size, 0, none⟩)) (.cells zerosA 52) (by kernel_rfl) ?_
  refine wpList_store_row rfl 52 (.tmp 4) (.tmp 16) rfl w2.heap.size shapesA (by kernel_rfl) (by kernel_rfl) 52 zerosA (heap_alloc_last _ _) (by kernel_rfl) (by kernel_rfl) (by kernel_rfl) (wpList_nil ?_)
  rw [World.setRow_alloc_new]
  have hx := fun j (hj : j < 7) => (s2.cell (r.kind.toNat * 7 + j)).trans (hat j hj)
  have d0 := hx 0 (by omega)
  have d1 := hx 1 (by omega)
  have d2 := hx 2 (by omega)
  have d3 := hx 3 (by omega)
  have d4 := hx 4 (by omega)
  have d5 := hx 5 (by omega)
  have d6 := hx 6 (by omega)
  have c0 := (s2.eq (sep_left_comm _ _ _)).cell 0
  simp [shC] at d0 d1 d2 d3 d4 d5 d6
  simp at c0
  have g0 : 0 ≤ r.kind := by omega
  have g9 : r.kind < 9 := by omega
  have s3 := s2.alloc (.cells #[.bool x.key, .bool x.sid, .bool x.colour, .bool x.table, .int .i64 x.n, .int .i64 x.sids, .int .i64 x.locs] 51)
  have c0' := (s3.right.eq (sep_left_comm _ _ _)).cell 0
  simp at c0'
  have s4 := (s3.eq (Q := EX (w2.heap.size + 1) w.heap.size w2.heap.size x r (.slice sa r.sids.length sc) (.slice la r.locs.length lc) R) (by unfold EX; rw [show (w2.alloc (.cells shapesA 52 (0, 0))).heap.size = w2.heap.size + 1 by simp, sep_left_comm (pts w2.heap.size _)])).alloc (.cells #[.int .u8 r.kind] 5)
  have hkb : Value.int .u8 r.kind = bv (b1 r.kind) := by rw [b1_val g0]; congr 1; omega
  have s5 := s4.rowMk (n := 1) (cap := 1) (size := 1) (xs := bvs [b1 r.kind]) (by decide) (by decide) (by simp) (by rw [hkb]; rfl)
  rw [show ((w2.alloc (.cells shapesA 52 (0, 0))).alloc (.cells #[.bool x.key, .bool x.sid, .bool x.colour, .bool x.table, .int .i64 x.n, .int .i64 x.sids, .int .i64 x.locs] 51 (0, 0))).heap.size = w2.heap.size + 1 + 1 by simp] at s5
  have S := Lib.hid s5
  have hl1 : ([b1 r.kind] ++ kB x r).length ≤ 18 := by
    unfold kB
    split
    · simp; omega
    · simp
  have Hl1 := Lib.hid hl1
  clear hl1
  clear s2 s3 s4 s5 hx hK hat hkb
  go_upto_region 5 with fail
  go_cut [6] from 7 to 24 (fun v6 wx => RA B w0 v6 [b1 r.kind] (EX (w2.heap.size + 1) w.heap.size w2.heap.size x r (.slice sa r.sids.length sc) (.slice la r.locs.length lc) R) wx)
  case first =>
    go_wp2_with fail
    go_meet
    exact ⟨_, 1, rfl, S.out⟩
  case rest =>
  clear S d0 d1 d2 d3 d4 d5 d6 c0 c0'
  generalize w2.heap.size + 1 = bs at *
  generalize w2.heap.size = ba at *
  generalize w.heap.size = br at *
  obtain ⟨g, c, rfl, s⟩ := hcut
  obtain ⟨wA, hwA⟩ : ∃ z, z = wc := ⟨_, rfl⟩
  subst hwA
  obtain ⟨q1, q2⟩ := EX_cells s
  have e0 := q1 0
  have e1 := q1 1
  have e2 := q1 2
  have e3 := q1 3
  have e4 := q1 4
  have e6 := q1 6
  have f1 := q2 1
  have f2 := q2 2
  have f3 := q2 3
  have f4 := q2 4
  have f5 := q2 5
  have f6 := q2 6
  have f7 := q2 7
  have f8 := q2 8
  have f9 := q2 9
  have f10 := q2 10
  have f11 := q2 11
  have f12 := q2 12
  simp at e0 e1 e2 e3 e4 e6 f1 f2 f3 f4 f5 f6 f7 f8 f9 f10 f11 f12
  clear q1 q2
  have S := Lib.hid s
  clear s
  go_upto_if 26 with fail
  go_cut [6] from 25 to 36 (fun v6 wx => RA B w0 v6 ([b1 r.kind] ++ kB x r) (EX bs br ba x r (.slice sa r.sids.length sc) (.slice la r.locs.length lc) R) wx)
  case first =>
    cases hk : x.key
    · have HW := Lib.hid (show [b1 r.kind] ++ kB x r = [b1 r.kind] by unfold kB; rw [hk]; simp)
      go_wp2_with fail
      go_meet
      rw [HW.out]
      exact ⟨g, c, rfl, S.out⟩
    · have HW := Lib.hid (show [b1 r.kind] ++ kB x r = [b1 r.kind] ++ [b1 r.key.length] ++ r.key by unfold kB; rw [hk]; simp)
      have hkv : Value.int .u8 (r.key.length : Int) = bv (b1 (r.key.length : Int)) := by rw [b1_val (by omega)]; congr 1; omega
      have Hkv := Lib.hid hkv
      clear hkv
      go_wp2_with fail
      refine wp_region_rv [32, 33, 36, 6] (XJ B w0 g c [b1 r.kind] [b1 r.key.length] ([b1 r.kind] ++ [b1 r.key.length] ++ r.key) (EX bs br ba x r (.slice sa r.sids.length sc) (.slice la r.locs.length lc) R)) [5, 6, 9, 10] mixed (by kernel_rfl) (by kernel_rfl) rfl (fun _ => S.out.drew) ?_
      refine RXl.exact (.slice (some ⟨g, 0, none⟩) [b1 r.kind].length c) rfl rfl rfl rfl rfl (fun _ _ _ _ _ => rfl) ?_
      refine RXl.exact (.pointer (some ⟨br, 1, none⟩)) rfl rfl rfl rfl rfl (fun j τ w' hj hJ => (by obtain ⟨vs, hv, hJ⟩ := hJ; exact (by simp [rho, upd, Spec.val, execOp, go_sem]))) ?_
      refine RXl.exact (str r.key) rfl rfl rfl rfl rfl (fun j τ w' hj hJ => (by obtain ⟨vs, hv, hJ⟩ := hJ; exact (by obtain ⟨X, y⟩ := XJ.st hJ; have c := (EX_cells y).2 1; simp at c; simp [rho, upd, Spec.val, execOp, go_sem, c]))) ?_
      refine RXl.exact (.int .i64 r.key.length) rfl rfl rfl rfl rfl (fun j τ w' hj hJ => (by obtain ⟨vs, hv, hJ⟩ := hJ; exact (by have e := len_str r.key; simp [rho, upd, Spec.val, execOp, go_sem, resolve, invoke, builtin, e]))) ?_
      refine RXl.exact (.int .u8 r.key.length) rfl rfl rfl rfl rfl (fun j τ w' hj hJ => (by obtain ⟨vs, hv, hJ⟩ := hJ; exact (by have e := wrap8 (n := r.key.length) (by omega) (by omega); simp [rho, upd, Spec.val, execOp, go_sem, e]))) ?_
      refine RXl.effV 0 32 rfl rfl rfl (Nat.le_of_ble_eq_true rfl) rfl rfl rfl rfl (fun ρ vs w hv hJ hag => XJ.lit1 rfl ((hag.ex 31 _ rfl rfl rfl).trans Hkv.out) hJ) ?_
      refine RXl.effV 1 33 rfl rfl rfl (Nat.le_of_ble_eq_true rfl) rfl rfl rfl rfl (fun ρ vs w hv hJ hag => XJ.app rfl (hag.ex 27 _ rfl rfl rfl) (hv 0 32 (by decide) rfl) (by simp) (by simp) (by simp) hJ) ?_
      refine RXl.exact (.pointer (some ⟨br, 1, none⟩)) rfl rfl rfl rfl rfl (fun j τ w' hj hJ => (by obtain ⟨vs, hv, hJ⟩ := hJ; exact (by simp [rho, upd, Spec.val, execOp, go_sem]))) ?_
      refine RXl.exact (str r.key) rfl rfl rfl rfl rfl (fun j τ w' hj hJ => (by obtain ⟨vs, hv, hJ⟩ := hJ; exact (by obtain ⟨X, y⟩ := XJ.st hJ; have c := (EX_cells y).2 1; simp at c; simp [rho, upd, Spec.val, execOp, go_sem, c]))) ?_
      refine RXl.effV 2 36 rfl rfl rfl (Nat.le_of_ble_eq_true rfl) rfl rfl rfl rfl (fun ρ vs w hv hJ hag => XJ.appS rfl (hv 1 33 (by decide) rfl) (hag.ex 35 _ rfl rfl rfl) (by simp) (by simp) (by omega) (by simp) hJ) ?_
      refine RXl.effV 3 6 rfl rfl rfl (Nat.le_of_ble_eq_true rfl) rfl rfl rfl rfl (fun ρ vs w hv hJ hag => XJ.asg rfl (hv 2 36 (by decide) rfl) hJ) ?_
      refine RXl.nilV _ (AgrL.unk 6 _ rfl (AgrL.unk 36 _ rfl (AgrL.upd _ _ (AgrL.upd _ _ (AgrL.unk 33 _ rfl (AgrL.unk 32 _ rfl (AgrL.upd _ _ (AgrL.upd _ _ (AgrL.upd _ _ (AgrL.upd _ _ (AgrL.upd _ _ (AgrL.base _)))))))))))) (by decide) (by decide) fun vs w8 hJ => ?_
      simp only [puts, Act.put, List.setIfInBounds_toArray, List.set_cons_succ, List.set_cons_zero]
      obtain ⟨g3, c3, e3, s3⟩ := hJ
      rw [show vs (0 + 1 + 1 + 1) = .slice (some ⟨g3, 0, none⟩) ([b1 r.kind] ++ [b1 r.key.length] ++ r.key).length c3 from e3]
      have S3 := Lib.hid s3
      clear s3 e3
      go_wp2_with fail
      go_meet
      rw [HW.out]
      exact ⟨g3, c3, rfl, S3.out⟩
  case rest =>
  clear e0 e1 e2 e3 e4 e6 f1 f2 f3 f4 f5 f6 f7 f8 f9 f10 f11 f12 S
  obtain ⟨g, c, rfl, s⟩ := hcut
  obtain ⟨wA, hwA⟩ : ∃ z, z = wc := ⟨_, rfl⟩
  subst hwA
  obtain ⟨q1, q2⟩ := EX_cells s
  have e0 := q1 0
  have e1 := q1 1
  have e2 := q1 2
  have e3 := q1 3
  have e4 := q1 4
  have e6 := q1 6
  have f1 := q2 1
  have f2 := q2 2
  have f3 := q2 3
  have f4 := q2 4
  have f5 := q2 5
  have f6 := q2 6
  have f7 := q2 7
  have f8 := q2 8
  have f9 := q2 9
  have f10 := q2 10
  have f11 := q2 11
  have f12 := q2 12
  simp at e0 e1 e2 e3 e4 e6 f1 f2 f3 f4 f5 f6 f7 f8 f9 f10 f11 f12
  clear q1 q2
  have hl1 := Hl1.out
  generalize hC1 : [b1 r.kind] ++ kB x r = C1 at s hl1 ⊢
  have HC1 := Lib.hid hC1
  clear hC1
  have S := Lib.hid s
  clear s
  go_upto_if 39 with fail
  go_cut [6] from 37 to 45 (fun v6 wx => RA B w0 v6 (C1 ++ nB x r) (EX bs br ba x r (.slice sa r.sids.length sc) (.slice la r.locs.length lc) R) wx)
  case first =>
    by_cases hk : 0 ≤ x.n
    · have HW := Lib.hid (show C1 ++ nB x r = C1 ++ [b1 r.n] by unfold nB; rw [if_pos hk])
      have n0 := G.out.n0
      have n1 := G.out.n1
      have n2 : r.n ≤ 64 := by have := Hxn.out; omega
      clear n1
      obtain ⟨s2, hb2⟩ := lit1 S.out (b1 r.n) (r.n) (by rw [b1_val n0]; congr 1; omega)
      have S2 := Lib.hid s2
      have Hb2 := Lib.hid hb2
      clear s2 hb2
      go_wp2_with (at_builtin; go_must (refine wpl_appendB rfl _ _ rfl tB S2.out _ 1 1 Hb2.out rfl rfl (by simp only [List.length_singleton]; omega) ?_); intro a3 c3 w3 s3; obtain ⟨g3, rfl⟩ := row_head s3 (by rw [List.length_append]; simp); have S3 := Lib.hid s3; clear s3)
      go_meet
      rw [HW.out]
      exact ⟨g3, c3, by simp, S3.out⟩
    · have HW := Lib.hid (show C1 ++ nB x r = C1 by unfold nB; rw [if_neg hk]; simp)
      go_wp2_with fail
      go_meet
      rw [HW.out]
      exact ⟨g, c, rfl, S.out⟩
  case rest =>
  clear e0 e1 e2 e3 e4 e6 f1 f2 f3 f4 f5 f6 f7 f8 f9 f10 f11 f12 S
  obtain ⟨g, c, rfl, s⟩ := hcut
  obtain ⟨wA, hwA⟩ : ∃ z, z = wc := ⟨_, rfl⟩
  subst hwA
  obtain ⟨q1, q2⟩ := EX_cells s
  have e0 := q1 0
  have e1 := q1 1
  have e2 := q1 2
  have e3 := q1 3
  have e4 := q1 4
  have e6 := q1 6
  have f1 := q2 1
  have f2 := q2 2
  have f3 := q2 3
  have f4 := q2 4
  have f5 := q2 5
  have f6 := q2 6
  have f7 := q2 7
  have f8 := q2 8
  have f9 := q2 9
  have f10 := q2 10
  have f11 := q2 11
  have f12 := q2 12
  simp at e0 e1 e2 e3 e4 e6 f1 f2 f3 f4 f5 f6 f7 f8 f9 f10 f11 f12
  clear q1 q2
  have hl2 : (C1 ++ nB x r).length ≤ 19 := by
    rw [List.length_append]
    have : (nB x r).length ≤ 1 := by unfold nB; split <;> simp
    omega
  generalize hC2 : C1 ++ nB x r = C2 at s hl2 ⊢
  have HC2 := Lib.hid hC2
  clear hC2
  have S := Lib.hid s
  clear s hl1
  go_upto_if 47 with fail
  go_cut [6] from 46 to 51 (fun v6 wx => RA B w0 v6 (C2 ++ sB x r) (EX bs br ba x r (.slice sa r.sids.length sc) (.slice la r.locs.length lc) R) wx)
  case first =>
    cases hk : x.sid
    · have HW := Lib.hid (show C2 ++ sB x r = C2 by unfold sB; rw [hk]; simp)
      go_wp2_with fail
      go_meet
      rw [HW.out]
      exact ⟨g, c, rfl, S.out⟩
    · have HW := Lib.hid (show C2 ++ sB x r = C2 ++ be4 r.sid by unfold sB; rw [hk]; simp)
      have n0 := G.out.sid hk
      have Q := Lib.hid (number_calls g c C2 r.sid (by omega) n0.2 (by omega) _ S.out)
      clear n0
      go_wp2_with fail
      refine Q.out.mono ?_
      rintro e w3 ⟨g3, c3, rfl, s3⟩
      have S3 := Lib.hid s3
      clear s3 Q
      go_wp2_with fail
      go_meet
      rw [HW.out]
      exact ⟨g3, c3, by simp, S3.out⟩
  case rest =>
  clear e0 e1 e2 e3 e4 e6 f1 f2 f3 f4 f5 f6 f7 f8 f9 f10 f11 f12 S
  obtain ⟨g, c, rfl, s⟩ := hcut
  obtain ⟨wA, hwA⟩ : ∃ z, z = wc := ⟨_, rfl⟩
  subst hwA
  obtain ⟨q1, q2⟩ := EX_cells s
  have e0 := q1 0
  have e1 := q1 1
  have e2 := q1 2
  have e3 := q1 3
  have e4 := q1 4
  have e6 := q1 6
  have f1 := q2 1
  have f2 := q2 2
  have f3 := q2 3
  have f4 := q2 4
  have f5 := q2 5
  have f6 := q2 6
  have f7 := q2 7
  have f8 := q2 8
  have f9 := q2 9
  have f10 := q2 10
  have f11 := q2 11
  have f12 := q2 12
  simp at e0 e1 e2 e3 e4 e6 f1 f2 f3 f4 f5 f6 f7 f8 f9 f10 f11 f12
  clear q1 q2
  have hl3 : (C2 ++ sB x r).length ≤ 23 := by
    rw [List.length_append]
    have : (sB x r).length ≤ 4 := by unfold sB; split <;> simp [be4]
    omega
  generalize hC3 : C2 ++ sB x r = C3 at s hl3 ⊢
  have HC3 := Lib.hid hC3
  clear hC3
  have S := Lib.hid s
  clear s hl2
  go_upto_if 53 with fail
  go_cut [6] from 52 to 59 (fun v6 wx => RA B w0 v6 (C3 ++ cB x r) (EX bs br ba x r (.slice sa r.sids.length sc) (.slice la r.locs.length lc) R) wx)
  case first =>
    cases hk : x.colour
    · have HW := Lib.hid (show C3 ++ cB x r = C3 by unfold cB; rw [hk]; simp)
      go_wp2_with fail
      go_meet
      rw [HW.out]
      exact ⟨g, c, rfl, S.out⟩
    · have HW := Lib.hid (show C3 ++ cB x r = C3 ++ [b1 r.colour] by unfold cB; rw [hk]; simp)
      have n0 := (G.out.col hk).1
      have n1 := (G.out.col hk).2
      obtain ⟨s2, hb2⟩ := lit1 S.out (b1 r.colour) (r.colour) (by rw [b1_val n0]; congr 1; omega)
      have S2 := Lib.hid s2
      have Hb2 := Lib.hid hb2
      clear s2 hb2
      go_wp2_with (at_builtin; go_must (refine wpl_appendB rfl _ _ rfl tB S2.out _ 1 1 Hb2.out rfl rfl (by simp only [List.length_singleton]; omega) ?_); intro a3 c3 w3 s3; obtain ⟨g3, rfl⟩ := row_head s3 (by rw [List.length_append]; simp); have S3 := Lib.hid s3; clear s3)
      go_meet
      rw [HW.out]
      exact ⟨g3, c3, by simp, S3.out⟩
  case rest =>
  clear e0 e1 e2 e3 e4 e6 f1 f2 f3 f4 f5 f6 f7 f8 f9 f10 f11 f12 S
  obtain ⟨g, c, rfl, s⟩ := hcut
  obtain ⟨wA, hwA⟩ : ∃ z, z = wc := ⟨_, rfl⟩
  subst hwA
  obtain ⟨q1, q2⟩ := EX_cells s
  have e0 := q1 0
  have e1 := q1 1
  have e2 := q1 2
  have e3 := q1 3
  have e4 := q1 4
  have e6 := q1 6
  have f1 := q2 1
  have f2 := q2 2
  have f3 := q2 3
  have f4 := q2 4
  have f5 := q2 5
  have f6 := q2 6
  have f7 := q2 7
  have f8 := q2 8
  have f9 := q2 9
  have f10 := q2 10
  have f11 := q2 11
  have f12 := q2 12
  simp at e0 e1 e2 e3 e4 e6 f1 f2 f3 f4 f5 f6 f7 f8 f9 f10 f11 f12
  clear q1 q2
  have hl4 : (C3 ++ cB x r).length ≤ 24 := by
    rw [List.length_append]
    have : (cB x r).length ≤ 1 := by unfold cB; split <;> simp
    omega
  generalize hC4 : C3 ++ cB x r = C4 at s hl4 ⊢
  have HC4 := Lib.hid hC4
  clear hC4
  have S := Lib.hid s
  clear s hl3
  go_wp2_with fail
  go_loopw [6, 63] (fun v6 i wr => ∃ (n g c : Nat), n ≤ r.sids.length ∧ i = .int .i64 n ∧ v6 = .slice (some ⟨g, 0, none⟩) (C4 ++ (r.sids.take n).flatMap be4).length c ∧ St B w0 wr (row 5 1 (.slice (some ⟨g, 0, none⟩) (C4 ++ (r.sids.take n).flatMap be4).length c) (C4 ++ (r.sids.take n).flatMap be4).length (bvs (C4 ++ (r.sids.take n).flatMap be4)) * (EX bs br ba x r (.slice sa r.sids.length sc) (.slice la r.locs.length lc) R))) (fun _ i _ => r.sids.length - (intOf i).toNat)
  case atStart => exact ⟨0, g, c, Nat.zero_le _, rfl, by simp, by simpa using S.out⟩
  case round =>
    obtain ⟨n, g, c, hn, rfl, rfl, s⟩ := hrel
    clear e0 e1 e2 e3 e4 e6 f1 f2 f3 f4 f5 f6 f7 f8 f9 f10 f11 f12 S
    by_cases hlt : n < r.sids.length
    · obtain ⟨H0, sR⟩ := EX_base s
      have hi := Hs.out _ _ sR
      obtain ⟨b, off, rfl⟩ := hi.head (by omega)
      have hc := hi.cellAt n hlt
      have hb := Hsb.out _ (List.getElem_mem hlt)
      have ht : (C4 ++ (r.sids.take n).flatMap be4) ++ be4 r.sids[n] = C4 ++ (r.sids.take (n + 1)).flatMap be4 := by rw [flat_succ _ _ _ hlt, List.append_assoc]
      have hle : (C4 ++ (r.sids.take n).flatMap be4).length ≤ 100 := by
        rw [List.length_append, flat_len (k := 4) (fun _ => rfl), List.length_take]; omega
      have q := number_calls g c (C4 ++ (r.sids.take n).flatMap be4) r.sids[n] hb.1 hb.2 (by omega) _ s
      rw [ht] at q
      generalize r.sids[n] = y at *
      have Q := Lib.hid q
      have hltI : (n : Int) < (r.sids.length : Int) := by omega
      clear s sR hi hb ht q
      generalize C4 ++ (r.sids.take n).flatMap be4 = D at *
      go_wp2_with fail
      refine Q.out.mono ?_
      rintro e w3 ⟨g3, c3, rfl, s3⟩
      have S3 := Lib.hid s3
      clear s3 Q hc
      go_wp2_with fail
      go_roundw
      case rel => exact ⟨n + 1, g3, c3, by omega, by go_num, by simp, S3.out⟩
      case measure => simp [intOf]; omega
    · obtain rfl : n = r.sids.length := by omega
      have hnl2 : ¬ (r.sids.length : Int) < (r.sids.length : Int) := by omega
      have hl5 : (C4 ++ (r.sids.take r.sids.length).flatMap be4).length ≤ 36 := by
        rw [List.length_append, flat_len (k := 4) (fun _ => rfl), List.length_take]; omega
      generalize hC5 : C4 ++ (r.sids.take r.sids.length).flatMap be4 = C5 at s hl5 ⊢
      have HC5 := Lib.hid hC5
      clear hC5
      clear hlt hn hl4
      obtain ⟨q1, q2⟩ := EX_cells s
      have e6 := q1 6
      have f6 := q2 6
      have e3 := q1 3
      simp at e6 f6 e3
      clear q1 q2
      have S := Lib.hid s
      clear s
      go_upto_if 73 with fail
      go_cut [6] from 61 to 80 (fun v6 wx => RA B w0 v6 (C5 ++ qB x r) (EX bs br ba x r (.slice sa r.sids.length sc) (.slice la r.locs.length lc) R) wx)
      case first =>
        by_cases hk : x.locs < 0
        · have HW := Lib.hid (show C5 ++ qB x r = C5 ++ [b1 r.locs.length] by unfold qB; rw [if_pos hk])
          obtain ⟨s2, hb2⟩ := lit1 S.out (b1 r.locs.length) (r.locs.length) (by rw [b1_val (by omega)]; congr 1; omega)
          have S2 := Lib.hid s2
          have Hb2 := Lib.hid hb2
          clear s2 hb2
          go_wp2_with (at_builtin; go_must (refine wpl_appendB rfl _ _ rfl tB S2.out _ 1 1 Hb2.out rfl rfl (by simp only [List.length_singleton]; omega) ?_); intro a3 c3 w3 s3; obtain ⟨g3, rfl⟩ := row_head s3 (by rw [List.length_append]; simp); have S3 := Lib.hid s3; clear s3)
          go_meet
          rw [HW.out]
          exact ⟨g3, c3, by simp, S3.out⟩
        · have HW := Lib.hid (show C5 ++ qB x r = C5 by unfold qB; rw [if_neg hk]; simp)
          have hk' : 0 ≤ x.locs := by omega
          clear hk
          go_wp2_with fail
          go_meet
          rw [HW.out]
          exact ⟨g, c, rfl, S.out⟩
      case rest =>
      obtain ⟨g, c, rfl, s⟩ := hcut
      obtain ⟨q1, q2⟩ := EX_cells s
      clear e6 f6 e3 S
      have f6 := q2 6
      have e3 := q1 3
      simp at f6 e3
      have hl6 : (C5 ++ qB x r).length ≤ 37 := by
        rw [List.length_append]
        have : (qB x r).length ≤ 1 := by unfold qB; split <;> simp
        omega
      generalize hC6 : C5 ++ qB x r = C6 at s hl6 ⊢
      have HC6 := Lib.hid hC6
      clear hC6
      have S := Lib.hid s
      clear s q1 q2 hl5
      go_wp2_with fail
      clear e3 f6
      go_loopw [6, 84] (fun v6 i wr => ∃ (n g c : Nat), n ≤ r.locs.length ∧ i = .int .i64 n ∧ v6 = .slice (some ⟨g, 0, none⟩) (C6 ++ (r.locs.take n).flatMap lcB).length c ∧ St B w0 wr (row 5 1 (.slice (some ⟨g, 0, none⟩) (C6 ++ (r.locs.take n).flatMap lcB).length c) (C6 ++ (r.locs.take n).flatMap lcB).length (bvs (C6 ++ (r.locs.take n).flatMap lcB)) * (EX bs br ba x r (.slice sa r.sids.length sc) (.slice la r.locs.length lc) R))) (fun _ i _ => r.locs.length - (intOf i).toNat)
      case atStart => exact ⟨0, g, c, Nat.zero_le _, rfl, by simp, by simpa using S.out⟩
      case round =>
        obtain ⟨n, g, c, hn, rfl, rfl, s⟩ := hrel
        clear S
        by_cases hlt : n < r.locs.length
        · obtain ⟨H0, sR⟩ := EX_base s
          have hi := Hl.out _ _ sR
          obtain ⟨b, off, rfl⟩ := hi.head (by omega)
          obtain ⟨hc0, hc1, hc2⟩ := hi.cellsAt n hlt
          have hb := Hlb.out _ (List.getElem_mem hlt)
          have ht : (C6 ++ (r.locs.take n).flatMap lcB) ++ lcB r.locs[n] = C6 ++ (r.locs.take (n + 1)).flatMap lcB := by rw [flat_succ _ _ _ hlt, List.append_assoc]
          have hle : (C6 ++ (r.locs.take n).flatMap lcB).length ≤ 100 := by
            rw [List.length_append, flat_len (k := 6) (fun _ => rfl), List.length_take]; omega
          generalize r.locs[n] = y at *
          have Ht := Lib.hid ht
          have S := Lib.hid s
          have hltI : (n : Int) < (r.locs.length : Int) := by omega
          clear s sR hi ht
          generalize C6 ++ (r.locs.take n).flatMap lcB = D at *
          obtain ⟨⟨y1, y2⟩, ⟨y3, y4⟩, y5, y6⟩ := hb
          have v1 : Value.int .u8 y.d = bv (b1 y.d) := by rw [b1_val y1]; congr 1; omega
          have v2 : Value.int .u8 y.s = bv (b1 y.s) := by rw [b1_val y3]; congr 1; omega
          have V1 := Lib.hid v1
          have V2 := Lib.hid v2
          clear v1 v2
          go_wp2_with fail
          refine wp_region_rv [95, 96, 99, 6] (XJ B w0 g c D [b1 y.d, b1 y.s] (D ++ [b1 y.d, b1 y.s] ++ be4 y.id) (pts wr.heap.size (.cells #[.int .i64 y.d, .int .i64 y.s, .int .i64 y.id] 31 (0, 0)) * (EX bs br ba x r (.slice sa r.sids.length sc) (.slice (some ⟨b, off, none⟩) r.locs.length lc) R))) [7, 8, 11, 12] mixed (by kernel_rfl) (by kernel_rfl) rfl (fun _ => ((S.out.alloc _).eq (sep_left_comm _ _ _)).drew) ?_
          refine RXl.exact (.slice (some ⟨g, 0, none⟩) D.length c) rfl rfl rfl rfl rfl (fun _ _ _ _ _ => rfl) ?_
          refine RXl.exact (.pointer (some ⟨wr.heap.size, 0, none⟩)) rfl rfl rfl rfl rfl (fun j τ w' hj hJ => (by obtain ⟨vs, hv, hJ⟩ := hJ; exact (by simp [rho, upd, Spec.val, execOp, go_sem]))) ?_
          refine RXl.exact (.int .i64 y.d) rfl rfl rfl rfl rfl (fun j τ w' hj hJ => (by obtain ⟨vs, hv, hJ⟩ := hJ; exact (by obtain ⟨X, z⟩ := XJ.st hJ; have c := z.right.cell 0; simp at c; simp [rho, upd, Spec.val, execOp, go_sem, c]))) ?_
          refine RXl.exact (.int .u8 y.d) rfl rfl rfl rfl rfl (fun j τ w' hj hJ => (by obtain ⟨vs, hv, hJ⟩ := hJ; exact (by have e := wrap8 (n := y.d) (by omega) (by omega); simp [rho, upd, Spec.val, execOp, go_sem, e]))) ?_
          refine RXl.exact (.pointer (some ⟨wr.heap.size, 1, none⟩)) rfl rfl rfl rfl rfl (fun j τ w' hj hJ => (by obtain ⟨vs, hv, hJ⟩ := hJ; exact (by simp [rho, upd, Spec.val, execOp, go_sem]))) ?_
          refine RXl.exact (.int .i64 y.s) rfl rfl rfl rfl rfl (fun j τ w' hj hJ => (by obtain ⟨vs, hv, hJ⟩ := hJ; exact (by obtain ⟨X, z⟩ := XJ.st hJ; have c := z.right.cell 1; simp at c; simp [rho, upd, Spec.val, execOp, go_sem, c]))) ?_
          refine RXl.exact (.int .u8 y.s) rfl rfl rfl rfl rfl (fun j τ w' hj hJ => (by obtain ⟨vs, hv, hJ⟩ := hJ; exact (by have e := wrap8 (n := y.s) (by omega) (by omega); simp [rho, upd, Spec.val, execOp, go_sem, e]))) ?_
          refine RXl.effV 0 95 rfl rfl rfl (Nat.le_of_ble_eq_true rfl) rfl rfl rfl rfl (fun ρ vs w hv hJ hag => XJ.lit2 rfl ((hag.ex 91 _ rfl rfl rfl).trans V1.out) ((hag.ex 94 _ rfl rfl rfl).trans V2.out) hJ) ?_
          refine RXl.effV 1 96 rfl rfl rfl (Nat.le_of_ble_eq_true rfl) rfl rfl rfl rfl (fun ρ vs w hv hJ hag => XJ.app rfl (hag.ex 88 _ rfl rfl rfl) (hv 0 95 (by decide) rfl) (by omega) (by simp) (by simp) hJ) ?_
          refine RXl.exact (.pointer (some ⟨wr.heap.size, 2, none⟩)) rfl rfl rfl rfl rfl (fun j τ w' hj hJ => (by obtain ⟨vs, hv, hJ⟩ := hJ; exact (by simp [rho, upd, Spec.val, execOp, go_sem]))) ?_
          refine RXl.exact (.int .i64 y.id) rfl rfl rfl rfl rfl (fun j τ w' hj hJ => (by obtain ⟨vs, hv, hJ⟩ := hJ; exact (by obtain ⟨X, z⟩ := XJ.st hJ; have c := z.right.cell 2; simp at c; simp [rho, upd, Spec.val, execOp, go_sem, c]))) ?_
          refine RXl.callV 2 99 rfl rfl rfl (Nat.le_of_ble_eq_true rfl) _ [.tmp 96, .tmp 98] _ rfl rfl rfl rfl rfl (fun ρ vs w hv hJ hag => XJ.num (hv 1 96 (by decide) rfl) (hag.ex 98 _ rfl rfl rfl) y5 y6 (by simp only [List.length_append, List.length_cons, List.length_nil]; omega) hJ) ?_
          refine RXl.effV 3 6 rfl rfl rfl (Nat.le_of_ble_eq_true rfl) rfl rfl rfl rfl (fun ρ vs w hv hJ hag => XJ.asg rfl (hv 2 99 (by decide) rfl) hJ) ?_
          refine RXl.nilV _ (AgrL.unk 6 _ rfl (AgrL.unk 99 _ rfl (AgrL.upd _ _ (AgrL.upd _ _ (AgrL.unk 96 _ rfl (AgrL.unk 95 _ rfl (AgrL.upd _ _ (AgrL.upd _ _ (AgrL.upd _ _ (AgrL.upd _ _ (AgrL.upd _ _ (AgrL.upd _ _ (AgrL.upd _ _ (AgrL.base _)))))))))))))) (by decide) (by decide) fun vs w8 hJ => ?_
          simp only [puts, Act.put, List.setIfInBounds_toArray, List.set_cons_succ, List.set_cons_zero]
          obtain ⟨g3, c3, e3, s3⟩ := hJ
          rw [show vs (0 + 1 + 1 + 1) = .slice (some ⟨g3, 0, none⟩) (D ++ [b1 y.d, b1 y.s] ++ be4 y.id).length c3 from e3]
          rw [show D ++ [b1 y.d, b1 y.s] ++ be4 y.id = D ++ lcB y from List.append_assoc _ _ _] at s3 ⊢
          rw [Ht.out] at s3 ⊢
          have S3 := Lib.hid ((s3.eq (sep_left_comm _ _ _)).right)
          clear s3 e3 S hc0 hc1 hc2
          go_wp2_with fail
          go_roundw
          case rel => exact ⟨n + 1, g3, c3, by omega, by go_num, by simp, S3.out⟩
          case measure => simp [intOf]; omega
        · obtain rfl : n = r.locs.length := by omega
          have hnl2 : ¬ (r.locs.length : Int) < (r.locs.length : Int) := by omega
          have hl7 : (C6 ++ (r.locs.take r.locs.length).flatMap lcB).length ≤ 73 := by
            rw [List.length_append, flat_len (k := 6) (fun _ => rfl), List.length_take]; omega
          have HEND := Lib.hid (show ∀ D, C6 ++ (r.locs.take r.locs.length).flatMap lcB = D → rBytes r = D ++ RcM.tB x r from fun D hD => by
            rw [HE.out, ← hD, List.take_length, ← HC6.out, ← HC5.out, ← HC4.out, ← HC3.out, ← HC2.out, ← HC1.out, List.take_length]
            simp only [List.append_assoc, List.cons_append, List.nil_append])
          generalize C6 ++ (r.locs.take r.locs.length).flatMap lcB = C7 at s hl7 ⊢ HEND
          have HE2 := Lib.hid (HEND.out C7 rfl)
          obtain ⟨q1, q2⟩ := EX_cells s
          have e3 := q1 3
          have f7 := q2 7
          have f8 := q2 8
          have f9 := q2 9
          have f10 := q2 10
          have f11 := q2 11
          have f12 := q2 12
          simp at e3 f7 f8 f9 f10 f11 f12
          have S := Lib.hid s
          clear s q1 q2 hlt hn hl6 HEND HE
          cases hk : x.table
          · have HW := Lib.hid (show rBytes r = C7 by rw [HE2.out]; unfold RcM.tB; rw [hk]; simp)
            go_wp2_with fail
            go_ret2
            rw [HW.out]
            exact ⟨g, c, rfl, EX_drop S.out⟩
          · have HW := Lib.hid (show rBytes r = C7 ++ r.tab.list.flatMap be4 by rw [HE2.out]; unfold RcM.tB; rw [hk]; simp)
            have htb := G.out.tab hk
            have Htb := Lib.hid htb
            clear htb
            have q := numbers_calls r.tab _ S.out
            unfold tbV at q
            have Q := Lib.hid q
            clear q S HE2
            go_wp2_with fail
            refine Q.out.mono ?_
            rintro e w3 ⟨g6, rfl, s⟩
            have s3 := s.eq (Q := row 5 1 (.slice (some ⟨g, 0, none⟩) C7.length c) C7.length (bvs C7) * (row 3 1 (.slice (some ⟨g6, 0, none⟩) 6 6) 6 (ivs r.tab.list) * (EX bs br ba x r (.slice sa r.sids.length sc) (.slice la r.locs.length lc) R))) (sep_left_comm _ _ _)
            have S3 := Lib.hid s3
            clear s s3 Q e3 f7 f8 f9 f10 f11 f12
            go_wp2_with fail
            go_loopw [6, 107] (fun v6 i wr => ∃ (n g c : Nat), n ≤ 6 ∧ i = .int .i64 n ∧ v6 = .slice (some ⟨g, 0, none⟩) (C7 ++ (r.tab.list.take n).flatMap be4).length c ∧ St B w0 wr (row 5 1 (.slice (some ⟨g, 0, none⟩) (C7 ++ (r.tab.list.take n).flatMap be4).length c) (C7 ++ (r.tab.list.take n).flatMap be4).length (bvs (C7 ++ (r.tab.list.take n).flatMap be4)) * (row 3 1 (.slice (some ⟨g6, 0, none⟩) 6 6) 6 (ivs r.tab.list) * (EX bs br ba x r (.slice sa r.sids.length sc) (.slice la r.locs.length lc) R)))) (fun _ i _ => 6 - (intOf i).toNat)
            case atStart => exact ⟨0, g, c, Nat.zero_le _, rfl, by simp, by simpa using S3.out⟩
            case round =>
              obtain ⟨n, g, c, hn, rfl, rfl, s⟩ := hrel
              clear S3
              have hlen6 : r.tab.list.length = 6 := rfl
              by_cases hlt : n < 6
              · have hlt' : n < r.tab.list.length := hlt
                have hi : IS wr (.slice (some ⟨g6, 0, none⟩) 6 6) r.tab.list := St.iS (s.right)
                have hc := hi.cellAt n hlt'
                rw [Nat.zero_add] at hc
                have hb := Htb.out _ (List.getElem_mem hlt')
                have ht : (C7 ++ (r.tab.list.take n).flatMap be4) ++ be4 r.tab.list[n] = C7 ++ (r.tab.list.take (n + 1)).flatMap be4 := by rw [flat_succ _ _ _ hlt', List.append_assoc]
                have hle : (C7 ++ (r.tab.list.take n).flatMap be4).length ≤ 100 := by
                  rw [List.length_append, flat_len (k := 4) (fun _ => rfl), List.length_take]; omega
                have q := number_calls g c (C7 ++ (r.tab.list.take n).flatMap be4) r.tab.list[n] hb.1 (by omega) (by omega) _ s
                rw [ht] at q
                generalize r.tab.list[n] = y at *
                have Q := Lib.hid q
                have hltI : (n : Int) < 6 := by omega
                clear s hi hb ht q hlt' hlen6
                generalize C7 ++ (r.tab.list.take n).flatMap be4 = D at *
                go_wp2_with fail
                refine Q.out.mono ?_
                rintro e w3 ⟨g3, c3, rfl, s3⟩
                have S3 := Lib.hid s3
                clear s3 Q hc
                go_wp2_with fail
                go_roundw
                case rel => exact ⟨n + 1, g3, c3, by omega, by go_num, by simp, S3.out⟩
                case measure => simp [intOf]; omega
              · have hn6 : n = 6 := by omega
                have hf : (r.tab.list.take n).flatMap be4 = r.tab.list.flatMap be4 := by rw [hn6, ← hlen6, List.take_length]
                rw [hf] at s ⊢
                have hnl3 : ¬ (n : Int) < 6 := by omega
                have S := Lib.hid s
                clear s hf hn6 hlt hlen6 hn
                generalize C7 ++ r.tab.list.flatMap be4 = C8 at *
                go_wp2_with fail
                go_ret2
                rw [HW.out]
                exact ⟨g, c, rfl, EX_drop (S.out.eq (sep_left_comm _ _ _)).right⟩
end
end Go.Proofs.Ytnfkcmcchkcflaa.RcW
