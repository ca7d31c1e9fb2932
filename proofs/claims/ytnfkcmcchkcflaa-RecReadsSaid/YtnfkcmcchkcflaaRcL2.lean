/- The laws of records, walked: a record made of numbers. No condition. -/
import Derived.Test.YtnfkcmcchkcflaaRcL1
import Derived.Deep.DeepCutAuto
import Derived.Deep.CutRange
import Derived.Deep.CutBlock
import Derived.Deep.MidRow
set_option linter.unusedSimpArgs false
set_option linter.unusedVariables false
namespace Go.Proofs.Ytnfkcmcchkcflaa.RcL
open Go Go.RowKit Go.Proofs.Ytnfkcmcchkcflaa Go.Proofs.Ytnfkcmcchkcflaa.Sp Go.Proofs.Ytnfkcmcchkcflaa.Reg Go.Proofs.Ytnfkcmcchkcflaa.RcM Go.Proofs.Ytnfkcmcchkcflaa.SlW Go.Proofs.Ytnfkcmcchkcflaa.Rd Go.Proofs.Ytnfkcmcchkcflaa.RcW
section
variable {B : Nat} {w0 : World} {R : HP}
theorem sz (w : World) (o : Obj) : (w.alloc o).heap.size = w.heap.size + 1 := by simp
theorem lcs_succ (l : List Int) (a i : Nat) : lcs l a (i + 1) = lcs l a i ++ [⟨nx l (a + 3 * i) 24, nx l (a + 3 * i + 1) 64, nx l (a + 3 * i + 2) 1000 + 1⟩] := by
  simp [lcs, List.range_succ]
/-- The record under way, too. -/
def NX (B : Nat) (w0 : World) (pc pa pl k : Nat) (lv : Value) (pr : Nat) (r : Rc) (sv lw : Value) (R : HP) (w : World) : Prop :=
  NC B w0 pc pa pl k lv (pts pr (.cells (rcA r sv lw) 27 (0, 0)) * (row 3 1 sv r.sids.length (ivs r.sids) * (row 31 3 lw r.locs.length (r.locs.flatMap lcC) * R))) w
/-- Where a region with calls and stores stands. -/
def KJ (B : Nat) (w0 : World) (pc pa pl : Nat) (lv : Value) (pr : Nat) (sv lw : Value) (R : HP) (ats : List Nat) (rs : List Rc) (j : Nat) (w : World) : Prop := NX B w0 pc pa pl (ats.getD j 0) lv pr (rs.getD j Rc.zero) sv lw R w
theorem KJ.clo {pc pa pl : Nat} {lv : Value} {pr : Nat} {sv lw : Value} {ats : List Nat} {rs : List Rc} {j : Nat} {w : World} (h : KJ B w0 pc pa pl lv pr sv lw R ats rs j w) : w.cell? ⟨pc, 0, none⟩ = some (.func (.func 16) #[] #[.pointer (some ⟨pa, 0, none⟩), .pointer (some ⟨pl, 0, none⟩)]) := NC.cell h
theorem NC.keep {pc pa pl k : Nat} {lv : Value} {w w' : World} (h : NC B w0 pc pa pl k lv R w) (a : Add w w') : NC B w0 pc pa pl k lv R w' := St.keep h a
theorem KJ.key {pc pa pl : Nat} {lv : Value} {pr : Nat} {sv lw : Value} {ats : List Nat} {rs : List Rc} {j : Nat} {w : World} {n : Int} (h0 : 0 ≤ n) (h1 : n < 12) (h : KJ B w0 pc pa pl lv pr sv lw R ats rs j w) :
    Calls Try.prog 18 #[.int .i64 n] w fun e w' => e = .returned (str (keyAt n)) ∧ KJ B w0 pc pa pl lv pr sv lw R ats rs j w' := (key_calls n h0 h1 w).mono fun _ _ h2 => ⟨h2.1, NC.keep h h2.2⟩
theorem NX.store {pc pa pl k pr : Nat} {lv : Value} {r r' : Rc} {sv lw : Value} {w : World} (i : Nat) (v : Value) (hr : (rcA r sv lw).setIfInBounds i v = rcA r' sv lw) (hs : r'.sids = r.sids) (hl : r'.locs = r.locs) (h : NX B w0 pc pa pl k lv pr r sv lw R w) :
    NX B w0 pc pa pl k lv pr r' sv lw R (w.setCell ⟨pr, i, none⟩ v) := by
  unfold NX at h ⊢
  rw [hs, hl, ← hr]
  exact NC.back ((NC.front h).set i v)
/-- One store in such a region. -/
theorem KJ.sto {pc pa pl pr : Nat} {lv : Value} {sv lw : Value} {ats : List Nat} {rs : List Rc} {k : Nat} {w : World} {ρ : Operand → Value} {o : Oper} {t : TypeId} {x y : Operand} (i : Nat) (v u : Value) (hop : o.op = .store t x y) (hx : ρ x = .pointer (some ⟨pr, i, none⟩)) (hy : ρ y = v) (h1 : v.oneCell' = true) (ht : (Try.prog.info? t).map (·.size) = some 1)
    (hu : (rcA (rs.getD k Rc.zero) sv lw)[i]? = some u) (ha : ats.getD (k + 1) 0 = ats.getD k 0) (hr : (rcA (rs.getD k Rc.zero) sv lw).setIfInBounds i v = rcA (rs.getD (k + 1) Rc.zero) sv lw) (hs : (rs.getD (k + 1) Rc.zero).sids = (rs.getD k Rc.zero).sids) (hl : (rs.getD (k + 1) Rc.zero).locs = (rs.getD k Rc.zero).locs)
    (h : KJ B w0 pc pa pl lv pr sv lw R ats rs k w) : ∃ w', (execOp ρ o).run Try.prog w = .ok .skip w' ∧ KJ B w0 pc pa pl lv pr sv lw R ats rs (k + 1) w' := by
  have s := NC.front h
  refine ⟨_, exec_store hop hx hy h1 ht ((s.cell i).trans hu) (s.free i), ?_⟩
  unfold KJ
  rw [ha]
  exact NX.store i v hr hs hl h
theorem KJ.stoT {pc pa pl pr : Nat} {lv : Value} {sv lw : Value} {ats : List Nat} {rs : List Rc} {k : Nat} {w : World} {ρ : Operand → Value} {o : Oper} {x y : Operand} (a0 a1 a2 a3 a4 a5 : Int) (hop : o.op = .store 25 x y) (hx : ρ x = .pointer (some ⟨pr, 7, none⟩)) (hy : ρ y = .agg #[.int .i64 a0, .int .i64 a1, .int .i64 a2, .int .i64 a3, .int .i64 a4, .int .i64 a5])
    (ha : ats.getD (k + 1) 0 = ats.getD k 0) (hr : rs.getD (k + 1) Rc.zero = { rs.getD k Rc.zero with tab := ⟨a0, a1, a2, a3, a4, a5⟩ })
    (h : KJ B w0 pc pa pl lv pr sv lw R ats rs k w) : ∃ w', (execOp ρ o).run Try.prog w = .ok .skip w' ∧ KJ B w0 pc pa pl lv pr sv lw R ats rs (k + 1) w' := by
  have s := NC.front h
  have ht : w.there pr 7 6 := fun j hj => by
    rw [s.cell, s.free]
    refine ⟨?_, rfl⟩
    obtain rfl | rfl | rfl | rfl | rfl | rfl : j = 0 ∨ j = 1 ∨ j = 2 ∨ j = 3 ∨ j = 4 ∨ j = 5 := by omega
    all_goals rfl
  refine ⟨w.setCells pr 7 [.int .i64 a0, .int .i64 a1, .int .i64 a2, .int .i64 a3, .int .i64 a4, .int .i64 a5], ?_, ?_⟩
  · unfold execOp
    simp only [hop, hx, hy, Instr.storeAt, Instr.sureAddr, Sem.run_bind, Sem.run_pure, Result.andThen_ok, run_storeVar_mid (P := Try.prog) w pr 7 25 #[.int .i64 a0, .int .i64 a1, .int .i64 a2, .int .i64 a3, .int .i64 a4, .int .i64 a5] ht (by kernel_rfl) (by simp [Value.oneCell'])]
  · unfold KJ
    rw [ha, hr]
    have h0 := NX.store (r := rs.getD k Rc.zero) (r' := { rs.getD k Rc.zero with tab := { (rs.getD k Rc.zero).tab with hot := a0 } }) 7 (.int .i64 a0) rfl rfl rfl h
    have h1 := NX.store (r := { rs.getD k Rc.zero with tab := { (rs.getD k Rc.zero).tab with hot := a0 } }) (r' := { rs.getD k Rc.zero with tab := { (rs.getD k Rc.zero).tab with hot := a0, warm := a1 } }) 8 (.int .i64 a1) rfl rfl rfl h0
    have h2 := NX.store (r := { rs.getD k Rc.zero with tab := { (rs.getD k Rc.zero).tab with hot := a0, warm := a1 } }) (r' := { rs.getD k Rc.zero with tab := { (rs.getD k Rc.zero).tab with hot := a0, warm := a1, gap := a2 } }) 9 (.int .i64 a2) rfl rfl rfl h1
    have h3 := NX.store (r := { rs.getD k Rc.zero with tab := { (rs.getD k Rc.zero).tab with hot := a0, warm := a1, gap := a2 } }) (r' := { rs.getD k Rc.zero with tab := { (rs.getD k Rc.zero).tab with hot := a0, warm := a1, gap := a2, add := a3 } }) 10 (.int .i64 a3) rfl rfl rfl h2
    have h4 := NX.store (r := { rs.getD k Rc.zero with tab := { (rs.getD k Rc.zero).tab with hot := a0, warm := a1, gap := a2, add := a3 } }) (r' := { rs.getD k Rc.zero with tab := { (rs.getD k Rc.zero).tab with hot := a0, warm := a1, gap := a2, add := a3, top := a4 } }) 11 (.int .i64 a4) rfl rfl rfl h3
    exact NX.store (r := { rs.getD k Rc.zero with tab := { (rs.getD k Rc.zero).tab with hot := a0, warm := a1, gap := a2, add := a3, top := a4 } }) (r' := { rs.getD k Rc.zero with tab := ⟨a0, a1, a2, a3, a4, a5⟩ }) 12 (.int .i64 a5) rfl rfl rfl h4
/-- Where a region stands that makes three Sids, too: n numbers gone, the Sids' row made or not, the Sid stored or not, the Sids stored or not. -/
def MZ (B : Nat) (w0 : World) (pc pa pl : Nat) (lv : Value) (pr : Nat) (kd s u v z : Int) (N : Nat) (R : HP) (n : Nat) (b c d : Bool) (w : World) : Prop := match b, d with
  | false, _ => NX B w0 pc pa pl n lv pr { Rc.zero with kind := kd, sid := bif c then s else 0 } (.slice none 0 0) (.slice none 0 0) R w ∧ w.heap.size = N
  | true, false => NX B w0 pc pa pl n lv pr { Rc.zero with kind := kd, sid := bif c then s else 0 } (.slice none 0 0) (.slice none 0 0) (pts N (.cells #[.int .i64 u, .int .i64 v, .int .i64 z] 3 (0, 0)) * R) w
  | true, true => NX B w0 pc pa pl n lv pr { Rc.zero with kind := kd, sid := bif c then s else 0, sids := [u, v, z] } (.slice (some ⟨N, 0, none⟩) 3 3) (.slice none 0 0) R w
def nn (c1 c2 c3 c4 : Nat) (D : Nat → Bool) : Nat := if D c4 = true then 5 else if D c3 = true then 4 else if D c2 = true then 3 else if D c1 = true then 2 else 1
def ZK (B : Nat) (w0 : World) (pc pa pl : Nat) (lv : Value) (pr : Nat) (kd s u v z : Int) (N : Nat) (R : HP) (c1 c2 c3 c4 b c d : Nat) (D : Nat → Bool) (w : World) : Prop :=
  MZ B w0 pc pa pl lv pr kd s u v z N R (nn c1 c2 c3 c4 D) (D b) (D c) (D d) w
section
variable {pc pa pl pr N : Nat} {lv : Value} {kd s u v z : Int} {c1 c2 c3 c4 b c d : Nat} {D D' : Nat → Bool} {w : World}
theorem MZ.clo {n : Nat} {b c d : Bool} (h : MZ B w0 pc pa pl lv pr kd s u v z N R n b c d w) : w.cell? ⟨pc, 0, none⟩ = some (.func (.func 16) #[] #[.pointer (some ⟨pa, 0, none⟩), .pointer (some ⟨pl, 0, none⟩)]) := by
  cases b
  · exact NC.cell h.1
  · cases d
    · exact NC.cell h
    · exact NC.cell h
theorem ZK.call {A : Option Addr} {c' : Nat} {l : List Int} (hl : ∀ w, Below B w0 w → IS w (.slice A l.length c') l) (n : Nat) (k : Int) (y : Int) (hy : nx l n k = y) (hk : 0 < k) (hn5 : n ≤ 100) (hn : nn c1 c2 c3 c4 D = n) (hn' : nn c1 c2 c3 c4 D' = n + 1) (hb : D' b = D b) (hc : D' c = D c) (hd : D' d = D d)
    (h : ZK B w0 pc pa pl (.slice A l.length c') pr kd s u v z N R c1 c2 c3 c4 b c d D w) :
    Calls Try.prog 16 #[.int .i64 k, .pointer (some ⟨pa, 0, none⟩), .pointer (some ⟨pl, 0, none⟩)] w fun e w' => e = .returned (.int .i64 y) ∧ ZK B w0 pc pa pl (.slice A l.length c') pr kd s u v z N R c1 c2 c3 c4 b c d D' w' := by
  unfold ZK at *
  rw [hn', hb, hc, hd]
  rw [hn] at h
  subst hy
  cases hB : D b
  · rw [hB] at h
    exact (nextZ hl pc pa pl n k hk (by omega) w h.1).mono fun _ _ g => ⟨g.1, g.2.1, g.2.2.trans h.2⟩
  · rw [hB] at h
    cases hD : D d
    · rw [hD] at h
      exact (nextZ hl pc pa pl n k hk (by omega) w h).mono fun _ _ g => ⟨g.1, g.2.1⟩
    · rw [hD] at h
      exact (nextZ hl pc pa pl n k hk (by omega) w h).mono fun _ _ g => ⟨g.1, g.2.1⟩
theorem ZK.lit {ρ : Operand → Value} {o : Oper} {x y y2 : Operand} (hop : o.op = .buildSlice 22 3 #[(0, x), (1, y), (2, y2)]) (hx : ρ x = .int .i64 u) (hy : ρ y = .int .i64 v) (hz : ρ y2 = .int .i64 z) (hn : nn c1 c2 c3 c4 D' = nn c1 c2 c3 c4 D) (hb : D b = false) (hb' : D' b = true) (hc : D' c = D c) (hd : D' d = false)
    (h : ZK B w0 pc pa pl lv pr kd s u v z N R c1 c2 c3 c4 b c d D w) :
    ∃ w', (execOp ρ o).run Try.prog w = .ok (.value (.slice (some ⟨N, 0, none⟩) 3 3)) w' ∧ ZK B w0 pc pa pl lv pr kd s u v z N R c1 c2 c3 c4 b c d D' w' := by
  unfold ZK at *
  rw [hb] at h
  rw [hn, hb', hc, hd]
  obtain ⟨h, rfl⟩ := h
  refine ⟨w.alloc (.cells #[.int .i64 u, .int .i64 v, .int .i64 z] 3), by simp [execOp, hop, hx, hy, hz, go_sem], ?_⟩
  have q := St.alloc h (.cells #[.int .i64 u, .int .i64 v, .int .i64 z] 3 (0, 0))
  exact St.eq (by ac_rfl) q
theorem ZK.sid {ρ : Operand → Value} {o : Oper} {x y : Operand} (hop : o.op = .store 3 x y) (hx : ρ x = .pointer (some ⟨pr, 3, none⟩)) (hy : ρ y = .int .i64 s) (hn : nn c1 c2 c3 c4 D' = nn c1 c2 c3 c4 D) (hb : D' b = D b) (hc : D' c = true) (hd : D' d = D d)
    (h : ZK B w0 pc pa pl lv pr kd s u v z N R c1 c2 c3 c4 b c d D w) : ∃ w', (execOp ρ o).run Try.prog w = .ok .skip w' ∧ ZK B w0 pc pa pl lv pr kd s u v z N R c1 c2 c3 c4 b c d D' w' := by
  unfold ZK at *
  rw [hn, hb, hc, hd]
  cases hB : D b
  · rw [hB] at h
    obtain ⟨h, h2⟩ := h
    have q := NC.front h
    exact ⟨_, exec_store hop hx hy rfl (by kernel_rfl) (q.cell 3) (q.free 3), NX.store (r := { Rc.zero with kind := kd, sid := bif D c then s else 0 }) (r' := { Rc.zero with kind := kd, sid := s }) 3 (.int .i64 s) rfl rfl rfl h, by simpa using h2⟩
  · rw [hB] at h
    cases hD : D d
    · rw [hD] at h
      have q := NC.front h
      exact ⟨_, exec_store hop hx hy rfl (by kernel_rfl) (q.cell 3) (q.free 3), NX.store (r := { Rc.zero with kind := kd, sid := bif D c then s else 0 }) (r' := { Rc.zero with kind := kd, sid := s }) 3 (.int .i64 s) rfl rfl rfl h⟩
    · rw [hD] at h
      have q := NC.front h
      exact ⟨_, exec_store hop hx hy rfl (by kernel_rfl) (q.cell 3) (q.free 3), NX.store (r := { Rc.zero with kind := kd, sid := bif D c then s else 0, sids := [u, v, z] }) (r' := { Rc.zero with kind := kd, sid := s, sids := [u, v, z] }) 3 (.int .i64 s) rfl rfl rfl h⟩
theorem ZK.sids {ρ : Operand → Value} {o : Oper} {x y : Operand} (hop : o.op = .store 22 x y) (hx : ρ x = .pointer (some ⟨pr, 4, none⟩)) (hy : ρ y = .slice (some ⟨N, 0, none⟩) 3 3) (hn : nn c1 c2 c3 c4 D' = nn c1 c2 c3 c4 D) (hb : D b = true) (hb' : D' b = true) (hc : D' c = D c) (hd : D d = false) (hd' : D' d = true)
    (h : ZK B w0 pc pa pl lv pr kd s u v z N R c1 c2 c3 c4 b c d D w) : ∃ w', (execOp ρ o).run Try.prog w = .ok .skip w' ∧ ZK B w0 pc pa pl lv pr kd s u v z N R c1 c2 c3 c4 b c d D' w' := by
  unfold ZK at *
  rw [hb, hd] at h
  rw [hn, hb', hc, hd']
  generalize nn c1 c2 c3 c4 D = n at *
  generalize (bif D c then s else 0) = s' at *
  have h : NX B w0 pc pa pl n lv pr { Rc.zero with kind := kd, sid := bif D c then s else 0 } (.slice none 0 0) (.slice none 0 0) (pts N (.cells #[.int .i64 u, .int .i64 v, .int .i64 z] 3 (0, 0)) * R) w := h
  have q := NC.front h
  refine ⟨_, exec_store hop hx hy rfl (by kernel_rfl) (q.cell 4) (q.free 4), ?_⟩
  have q2 := q.set 4 (.slice (some ⟨N, 0, none⟩) 3 3)
  have q3 := (q2.eq (Q := pts N (.cells #[.int .i64 u, .int .i64 v, .int .i64 z] 3 (0, 0)) * (row 3 1 (.slice none 0 0) 0 [] * (pts pr (.cells ((rcA { Rc.zero with kind := kd, sid := bif D c then s else 0 } (.slice none 0 0) (.slice none 0 0)).setIfInBounds 4 (.slice (some ⟨N, 0, none⟩) 3 3)) 27 (0, 0)) * (pts pa (.cells #[.int .i64 (n : Int)] 3 (0, 0)) * (pts pl (.cells #[lv] 22 (0, 0)) * (pts pc (.cells #[cv pa pl] 46 (0, 0)) * (row 31 3 (.slice none 0 0) 0 [] * R))))))) (by simp only [Rc.zero, ivs, List.map_nil, List.flatMap_nil, List.length_nil]; ac_rfl)).rowMk (n := 3) (cap := 3) (size := 1) (xs := ivs [u, v, z]) (by decide) (by decide) (by simp) rfl
  have q4 := (q3.eq (sep_left_comm _ _ _)).right
  exact NC.back (q4.eq (Q := pts pr (.cells (rcA { Rc.zero with kind := kd, sid := bif D c then s else 0, sids := [u, v, z] } (.slice (some ⟨N, 0, none⟩) 3 3) (.slice none 0 0)) 27 (0, 0)) * (pts pa (.cells #[.int .i64 (n : Int)] 3 (0, 0)) * (pts pl (.cells #[lv] 22 (0, 0)) * (pts pc (.cells #[cv pa pl] 46 (0, 0)) * (row 3 1 (.slice (some ⟨N, 0, none⟩) 3 3) 3 (ivs [u, v, z]) * (row 31 3 (.slice none 0 0) 0 [] * R)))))) (by unfold rcA; ac_rfl))
theorem ZK.loc (h1 : D c1 = D' c1) (h2 : D c2 = D' c2) (h3 : D c3 = D' c3) (h4 : D c4 = D' c4) (h5 : D b = D' b) (h6 : D c = D' c) (h7 : D d = D' d) (h : ZK B w0 pc pa pl lv pr kd s u v z N R c1 c2 c3 c4 b c d D w) : ZK B w0 pc pa pl lv pr kd s u v z N R c1 c2 c3 c4 b c d D' w := by
  unfold ZK nn at *
  rw [← h1, ← h2, ← h3, ← h4, ← h5, ← h6, ← h7]
  exact h
end
theorem NX.keep {pc pa pl k pr : Nat} {lv : Value} {r : Rc} {sv lw : Value} {w w' : World} (h : NX B w0 pc pa pl k lv pr r sv lw R w) (a : Add w w') : NX B w0 pc pa pl k lv pr r sv lw R w' := NC.keep h a
/-- Where one more Loc stands. -/
def MJ (B : Nat) (w0 : World) (pc pa pl k : Nat) (lv : Value) (pr : Nat) (r : Rc) (sv lw : Value) (y : Lc) (R : HP) (j : Nat) (vs : Nat → Value) (w : World) : Prop := match j with
  | 0 => NX B w0 pc pa pl k lv pr r sv lw R w
  | 1 => vs 0 = lcV y ∧ NX B w0 pc pa pl (k + 3) lv pr r sv lw R w
  | 2 => ∃ g, vs 1 = .slice (some ⟨g, 0, none⟩) 1 1 ∧ NX B w0 pc pa pl (k + 3) lv pr r sv lw (pts g (.cells #[.int .i64 y.d, .int .i64 y.s, .int .i64 y.id] 31 (0, 0)) * R) w
  | 3 => ∃ lw', vs 2 = lw' ∧ lw'.oneCell' = true ∧ NC B w0 pc pa pl (k + 3) lv (pts pr (.cells (rcA r sv lw) 27 (0, 0)) * (row 3 1 sv r.sids.length (ivs r.sids) * (row 31 3 lw' (r.locs.length + 1) (r.locs.flatMap lcC ++ lcC y) * R))) w
  | _ => ∃ lw', NC B w0 pc pa pl (k + 3) lv (pts pr (.cells (rcA r sv lw') 27 (0, 0)) * (row 3 1 sv r.sids.length (ivs r.sids) * (row 31 3 lw' (r.locs.length + 1) (r.locs.flatMap lcC ++ lcC y) * R))) w
section
variable {pc pa pl k pr : Nat} {lv : Value} {r : Rc} {sv lw : Value} {y : Lc} {w : World} {vs : Nat → Value}
theorem MJ.rec : ∀ {j : Nat} {vs : Nat → Value} {w : World}, j < 4 → MJ B w0 pc pa pl k lv pr r sv lw y R j vs w → ∃ Z, St B w0 w (pts pr (.cells (rcA r sv lw) 27 (0, 0)) * Z)
  | 0, _, _, _, h => ⟨_, NC.front h⟩
  | 1, _, _, _, ⟨_, h⟩ => ⟨_, NC.front h⟩
  | 2, _, _, _, ⟨_, _, h⟩ => ⟨_, NC.front h⟩
  | 3, _, _, _, ⟨_, _, _, h⟩ => ⟨_, NC.front h⟩
  | j + 4, _, _, hj, _ => absurd hj (by omega)
theorem MJ.lit {ρ : Operand → Value} {o : Oper} {q : Operand} (hop : o.op = .buildSlice 23 1 #[(0, q)]) (hq : ρ q = vs 0) (hJ : MJ B w0 pc pa pl k lv pr r sv lw y R 1 vs w) :
    ∃ v w', (execOp ρ o).run Try.prog w = .ok (.value v) w' ∧ MJ B w0 pc pa pl k lv pr r sv lw y R 2 (updv vs 1 v) w' := by
  obtain ⟨e, h⟩ := hJ
  refine ⟨.slice (some ⟨w.heap.size, 0, none⟩) 1 1, w.alloc (.cells #[.int .i64 y.d, .int .i64 y.s, .int .i64 y.id] 31), ?_, w.heap.size, by simp [updv], St.eq (by ac_rfl) (St.alloc h (.cells #[.int .i64 y.d, .int .i64 y.s, .int .i64 y.id] 31 (0, 0)))⟩
  unfold lcV at e
  simp [execOp, hop, hq, e, go_sem]
theorem MJ.app {ρ : Operand → Value} {o : Oper} {q q2 : Operand} (hop : o.op = .call { callee := .builtin .append, args := #[q, q2], argTypes := #[23, 23] }) (hx : ρ q = lw) (hy : ρ q2 = vs 1) (hl : r.locs.length ≤ 1000) (hJ : MJ B w0 pc pa pl k lv pr r sv lw y R 2 vs w) :
    ∃ v w', (execOp ρ o).run Try.prog w = .ok (.value v) w' ∧ MJ B w0 pc pa pl k lv pr r sv lw y R 3 (updv vs 2 v) w' := by
  obtain ⟨g, e, h⟩ := hJ
  have s1 := (NC.front h).eq (Q := row 31 3 lw r.locs.length (r.locs.flatMap lcC) * (pts g (.cells #[.int .i64 y.d, .int .i64 y.s, .int .i64 y.id] 31 (0, 0)) * (pts pr (.cells (rcA r sv lw) 27 (0, 0)) * (pts pa (.cells #[.int .i64 ((k + 3 : Nat) : Int)] 3 (0, 0)) * (pts pl (.cells #[lv] 22 (0, 0)) * (pts pc (.cells #[cv pa pl] 46 (0, 0)) * (row 3 1 sv r.sids.length (ivs r.sids) * R))))))) (by ac_rfl)
  have hrd : Rd w (some ⟨g, 0, none⟩) (lcC y) := (s1.right).rd 0 3
  obtain ⟨v', w', hr, s2, -⟩ := run_append_st (P := Try.prog) tL o.type s1 (some ⟨g, 0, none⟩) 1 1 (lcC y) hrd (fun e => by cases e) rfl (by intro u hu; simp [lcC] at hu; rcases hu with rfl | rfl | rfl <;> rfl) (by unfold maxLen; omega) (by omega)
  have h1 : v'.oneCell' = true := by
    obtain ⟨a, c, rfl, -⟩ := s2.rowSlice
    rfl
  have s3 := (s2.eq (sep_left_comm _ _ _)).right
  refine ⟨v', w', ?_, v', by simp [updv], h1, NC.back (s3.eq (Q := pts pr (.cells (rcA r sv lw) 27 (0, 0)) * (pts pa (.cells #[.int .i64 ((k + 3 : Nat) : Int)] 3 (0, 0)) * (pts pl (.cells #[lv] 22 (0, 0)) * (pts pc (.cells #[cv pa pl] 46 (0, 0)) * (row 3 1 sv r.sids.length (ivs r.sids) * (row 31 3 v' (r.locs.length + 1) (r.locs.flatMap lcC ++ lcC y) * R)))))) (by ac_rfl))⟩
  simp [execOp, hop, resolve, invoke, builtin, hx, hy, e, hr, Result.andThen]
theorem MJ.sto {ρ : Operand → Value} {o : Oper} {q q2 : Operand} (hop : o.op = .store 23 q q2) (hx : ρ q = .pointer (some ⟨pr, 6, none⟩)) (hy : ρ q2 = vs 2) (hJ : MJ B w0 pc pa pl k lv pr r sv lw y R 3 vs w) :
    ∃ w', (execOp ρ o).run Try.prog w = .ok .skip w' ∧ MJ B w0 pc pa pl k lv pr r sv lw y R 4 vs w' := by
  obtain ⟨lw', e, h1, h⟩ := hJ
  have s := NC.front h
  exact ⟨_, exec_store hop hx (hy.trans e) h1 (by kernel_rfl) (s.cell 6) (s.free 6), lw', NC.back (s.set 6 lw')⟩
end
set_option maxRecDepth 100000 in
set_option maxHeartbeats 16000000 in
theorem rec_calls (A : Option Addr) (c : Nat) (l : List Int) (hl : ∀ w, Below B w0 w → IS w (.slice A l.length c) l) (w : World) (s : St B w0 w R) :
    Calls Try.prog 7 #[.slice A l.length c] w fun e w' => ∃ sv lw, e = .returned (rcV (recL l) sv lw) ∧ St B w0 w' (row 3 1 sv (recL l).sids.length (ivs (recL l).sids) * (row 31 3 lw (recL l).locs.length ((recL l).locs.flatMap lcC) * R)) := by
  have HL := Lib.hid hl
  have s4 := (((s.alloc (.cells #[.slice A l.length c] 22)).alloc (.cells #[.int .i64 0, str [], .int .i64 0, .int .i64 0, .slice none 0 0, .int .i64 0, .slice none 0 0, .int .i64 0, .int .i64 0, .int .i64 0, .int .i64 0, .int .i64 0, .int .i64 0] 27)).alloc (.cells #[.int .i64 0] 3)).alloc (.cells #[.nilFunc] 46)
  simp only [sz] at s4
  have c4 := s4.cell 0
  have f4 := s4.free 0
  have hst : (store ⟨w.heap.size + 1 + 1 + 1, 0, none⟩ (.func (.func 16) #[] #[.pointer (some ⟨w.heap.size + 1 + 1, 0, none⟩), .pointer (some ⟨w.heap.size, 0, none⟩)])).run Try.prog ((((w.alloc (.cells #[.slice A l.length c] 22)).alloc (.cells #[.int .i64 0, str [], .int .i64 0, .int .i64 0, .slice none 0 0, .int .i64 0, .slice none 0 0, .int .i64 0, .int .i64 0, .int .i64 0, .int .i64 0, .int .i64 0, .int .i64 0] 27)).alloc (.cells #[.int .i64 0] 3)).alloc (.cells #[.nilFunc] 46)) = .ok () (((((w.alloc (.cells #[.slice A l.length c] 22)).alloc (.cells #[.int .i64 0, str [], .int .i64 0, .int .i64 0, .slice none 0 0, .int .i64 0, .slice none 0 0, .int .i64 0, .int .i64 0, .int .i64 0, .int .i64 0, .int .i64 0, .int .i64 0] 27)).alloc (.cells #[.int .i64 0] 3)).alloc (.cells #[.nilFunc] 46)).setCell ⟨w.heap.size + 1 + 1 + 1, 0, none⟩ (cv (w.heap.size + 1 + 1) w.heap.size)) := by
    rw [run_store _ _ _ _ _ rfl, c4, f4]
    rfl
  have s5 := (((s.alloc (.cells #[.slice A l.length c] 22)).alloc (.cells #[.int .i64 0, str [], .int .i64 0, .int .i64 0, .slice none 0 0, .int .i64 0, .slice none 0 0, .int .i64 0, .int .i64 0, .int .i64 0, .int .i64 0, .int .i64 0, .int .i64 0] 27)).alloc (.cells #[.int .i64 0] 3)).alloc (.cells #[cv (w.heap.size + 1 + 1) w.heap.size] 46)
  simp only [sz] at s5
  have n5 : NC B w0 (w.heap.size + 1 + 1 + 1) (w.heap.size + 1 + 1) w.heap.size 0 (.slice A l.length c) (pts (w.heap.size + 1) (.cells #[.int .i64 0, str [], .int .i64 0, .int .i64 0, .slice none 0 0, .int .i64 0, .slice none 0 0, .int .i64 0, .int .i64 0, .int .i64 0, .int .i64 0, .int .i64 0, .int .i64 0] 27 (0, 0)) * R) ((((w.alloc (.cells #[.slice A l.length c] 22)).alloc (.cells #[.int .i64 0, str [], .int .i64 0, .int .i64 0, .slice none 0 0, .int .i64 0, .slice none 0 0, .int .i64 0, .int .i64 0, .int .i64 0, .int .i64 0, .int .i64 0, .int .i64 0] 27)).alloc (.cells #[.int .i64 0] 3)).alloc (.cells #[cv (w.heap.size + 1 + 1) w.heap.size] 46)) := St.eq (by ac_rfl) s5
  have c5 : ((((w.alloc (.cells #[.slice A l.length c] 22)).alloc (.cells #[.int .i64 0, str [], .int .i64 0, .int .i64 0, .slice none 0 0, .int .i64 0, .slice none 0 0, .int .i64 0, .int .i64 0, .int .i64 0, .int .i64 0, .int .i64 0, .int .i64 0] 27)).alloc (.cells #[.int .i64 0] 3)).alloc (.cells #[cv (w.heap.size + 1 + 1) w.heap.size] 46)).cell? ⟨w.heap.size + 1 + 1 + 1, 0, none⟩ = some (.func (.func 16) #[] #[.pointer (some ⟨w.heap.size + 1 + 1, 0, none⟩), .pointer (some ⟨w.heap.size, 0, none⟩)]) := NC.cell n5
  have q := nextZ hl _ _ _ 0 8 (by decide) (by omega) _ n5
  have v00 := nx_lo l 0 (n := 8) (by decide)
  have v08 := nx_hi l 0 (n := 8) (by decide)
  have hrl : recL l = recK l ((nx l 0 8).toNat + 1) := rfl
  generalize nx l 0 8 = v0 at *
  have Q := Lib.hid q
  have Hrl := Lib.hid hrl
  clear hrl
  clear hl s s4 s5 n5 c4 f4 q
  unfold cv at *
  go_enter Try.func7, Try.ntmps7
  go_wp2_with fail
  refine Q.out.mono ?_
  rintro e w1 ⟨rfl, h1, -⟩
  have n1 : NX B w0 (w.heap.size + 1 + 1 + 1) (w.heap.size + 1 + 1) w.heap.size 1 (.slice A l.length c) w1.heap.size { Rc.zero with kind := v0 + 1 } (.slice none 0 0) (.slice none 0 0) (pts (w.heap.size + 1) (.cells #[.int .i64 0, str [], .int .i64 0, .int .i64 0, .slice none 0 0, .int .i64 0, .slice none 0 0, .int .i64 0, .int .i64 0, .int .i64 0, .int .i64 0, .int .i64 0, .int .i64 0] 27 (0, 0)) * R) (w1.alloc (.cells #[.int .i64 (v0 + 1), str [], .int .i64 0, .int .i64 0, .slice none 0 0, .int .i64 0, .slice none 0 0, .int .i64 0, .int .i64 0, .int .i64 0, .int .i64 0, .int .i64 0, .int .i64 0] 27)) := by
    have q := (((NC.front h1).rowNil 31 3).rowNil 3 1).alloc (.cells #[.int .i64 (v0 + 1), str [], .int .i64 0, .int .i64 0, .slice none 0 0, .int .i64 0, .slice none 0 0, .int .i64 0, .int .i64 0, .int .i64 0, .int .i64 0, .int .i64 0, .int .i64 0] 27)
    exact NC.back (q.eq (by simp only [Rc.zero, Tb.zero, ivs, List.map_nil, List.flatMap_nil, List.length_nil, rcA]; ac_rfl))
  have c0 := (NC.front n1).cell 0
  unfold rcA at c0
  simp at c0
  have N1 := Lib.hid n1
  clear n1 h1 Q c5 hst
  generalize w.heap.size + 1 + 1 + 1 = pc at *
  generalize w.heap.size + 1 + 1 = pa at *
  generalize w.heap.size + 1 = p2 at *
  generalize w.heap.size = pl at *
  go_upto_block 0 with fail
  go_cut [7] from 8 to 125 (fun v7 wx => ∃ (r : Rc) (a0 m : Nat) (sv lw : Value), m ≤ 6 ∧ a0 ≤ 10 ∧ v7 = .int .i64 m ∧ r.locs = [] ∧ recL l = { r with locs := lcs l a0 m } ∧ NX B w0 pc pa pl a0 (.slice A l.length c) w1.heap.size r sv lw (pts p2 (.cells #[.int .i64 0, str [], .int .i64 0, .int .i64 0, .slice none 0 0, .int .i64 0, .slice none 0 0, .int .i64 0, .int .i64 0, .int .i64 0, .int .i64 0, .int .i64 0, .int .i64 0] 27 (0, 0)) * R) wx)
  case first =>
    generalize w1.alloc (.cells #[.int .i64 (v0 + 1), str [], .int .i64 0, .int .i64 0, .slice none 0 0, .int .i64 0, .slice none 0 0, .int .i64 0, .int .i64 0, .int .i64 0, .int .i64 0, .int .i64 0, .int .i64 0] 27) = wz at N1 c0 ⊢
    obtain rfl | rfl | rfl | rfl | rfl | rfl | rfl | rfl : v0 = 0 ∨ v0 = 1 ∨ v0 = 2 ∨ v0 = 3 ∨ v0 = 4 ∨ v0 = 5 ∨ v0 = 6 ∨ v0 = 7 := by omega
    · skip
      have hrk := Hrl.out
      skip
      have x1lo := nx_lo l 1 (n := 12) (by decide)
      have x1hi := nx_hi l 1 (n := 12) (by decide)
      have x2lo := nx_lo l 2 (n := 65) (by decide)
      have x2hi := nx_hi l 2 (n := 65) (by decide)
      have x3lo := nx_lo l 3 (n := 50) (by decide)
      have x3hi := nx_hi l 3 (n := 50) (by decide)
      generalize hx1 : nx l 1 12 = x1 at x1lo x1hi
      have Hx1 := Lib.hid hx1
      clear hx1
      generalize hx2 : nx l 2 65 = x2 at x2lo x2hi
      have Hx2 := Lib.hid hx2
      clear hx2
      generalize hx3 : nx l 3 50 = x3 at x3lo x3hi
      have Hx3 := Lib.hid hx3
      clear hx3
      go_wp2_with fail
      refine wp_region_rx (KJ B w0 pc pa pl (.slice A l.length c) w1.heap.size (.slice none 0 0) (.slice none 0 0) (pts p2 (.cells #[.int .i64 0, str [], .int .i64 0, .int .i64 0, .slice none 0 0, .int .i64 0, .slice none 0 0, .int .i64 0, .int .i64 0, .int .i64 0, .int .i64 0, .int .i64 0, .int .i64 0] 27 (0, 0)) * R) [1, 2, 3, 4, 4, 4, 4] [{ Rc.zero with kind := 1 }, { Rc.zero with kind := 1 }, { Rc.zero with kind := 1 }, { Rc.zero with kind := 1 }, { Rc.zero with kind := 1, key := keyAt x1 }, { Rc.zero with kind := 1, key := keyAt x1, n := x2 }, { Rc.zero with kind := 1, key := keyAt x1, n := x2, sid := x3 + 1 }]) [1,4,6,9,11,13] mixed (by kernel_rfl) (by kernel_rfl) (St.drew N1.out) ?_
      refine RXl.exact (.func (.func 16) #[] #[.pointer (some ⟨pa, 0, none⟩), .pointer (some ⟨pl, 0, none⟩)]) rfl rfl rfl rfl rfl (fun j τ w' hj hJ => by have c := KJ.clo hJ; simp [rho, upd, Spec.val, execOp, go_sem, c]) ?_
      refine RXl.callp 0 (.int .i64 x1) (16) (#[.int .i64 12, .pointer (some ⟨pa, 0, none⟩), .pointer (some ⟨pl, 0, none⟩)]) rfl rfl rfl rfl rfl (fun w' => by simp [rho, upd, Spec.val, execOp, go_sem, resolve, invoke, Deferred.ofValue]) (fun w' hJ =>  (nextC HL.out pc pa pl 1 12 (by decide) (by omega) w' hJ).mono fun _ _ h => ⟨h.1.trans (by rw [Hx1.out]), h.2⟩) ?_
      refine RXl.callr (str (keyAt x1)) _ [.int .i64 x1] [.tmp 35] _ rfl rfl rfl rfl rfl rfl (fun _ => rfl) (fun j τ w' hj hJ => KJ.key (by omega) (by omega) hJ) ?_
      refine RXl.exact (.func (.func 16) #[] #[.pointer (some ⟨pa, 0, none⟩), .pointer (some ⟨pl, 0, none⟩)]) rfl rfl rfl rfl rfl (fun j τ w' hj hJ => by have c := KJ.clo hJ; simp [rho, upd, Spec.val, execOp, go_sem, c]) ?_
      refine RXl.callp 1 (.int .i64 x2) (16) (#[.int .i64 65, .pointer (some ⟨pa, 0, none⟩), .pointer (some ⟨pl, 0, none⟩)]) rfl rfl rfl rfl rfl (fun w' => by simp [rho, upd, Spec.val, execOp, go_sem, resolve, invoke, Deferred.ofValue]) (fun w' hJ =>  (nextC HL.out pc pa pl 2 65 (by decide) (by omega) w' hJ).mono fun _ _ h => ⟨h.1.trans (by rw [Hx2.out]), h.2⟩) ?_
      refine RXl.exact (.func (.func 16) #[] #[.pointer (some ⟨pa, 0, none⟩), .pointer (some ⟨pl, 0, none⟩)]) rfl rfl rfl rfl rfl (fun j τ w' hj hJ => by have c := KJ.clo hJ; simp [rho, upd, Spec.val, execOp, go_sem, c]) ?_
      refine RXl.callp 2 (.int .i64 x3) (16) (#[.int .i64 50, .pointer (some ⟨pa, 0, none⟩), .pointer (some ⟨pl, 0, none⟩)]) rfl rfl rfl rfl rfl (fun w' => by simp [rho, upd, Spec.val, execOp, go_sem, resolve, invoke, Deferred.ofValue]) (fun w' hJ =>  (nextC HL.out pc pa pl 3 50 (by decide) (by omega) w' hJ).mono fun _ _ h => ⟨h.1.trans (by rw [Hx3.out]), h.2⟩) ?_
      refine RXl.exact (.int .i64 (x3 + 1)) rfl rfl rfl rfl rfl (fun j τ w' hj hJ => by have e := wrapI (n := x3 + 1) (by omega) (by omega); simp [rho, upd, Spec.val, execOp, go_sem, e]) ?_
      refine RXl.exact (.pointer (some ⟨w1.heap.size, 1, none⟩)) rfl rfl rfl rfl rfl (fun j τ w' hj hJ => by simp [rho, upd, Spec.val, execOp, go_sem]) ?_
      refine RXl.effj 3 rfl rfl rfl rfl rfl rfl (fun w' hJ => KJ.sto 1 (str (keyAt x1)) _ rfl rfl rfl rfl (by kernel_rfl) rfl rfl rfl rfl rfl hJ) ?_
      refine RXl.exact (.pointer (some ⟨w1.heap.size, 2, none⟩)) rfl rfl rfl rfl rfl (fun j τ w' hj hJ => by simp [rho, upd, Spec.val, execOp, go_sem]) ?_
      refine RXl.effj 4 rfl rfl rfl rfl rfl rfl (fun w' hJ => KJ.sto 2 (.int .i64 x2) _ rfl rfl rfl rfl (by kernel_rfl) rfl rfl rfl rfl rfl hJ) ?_
      refine RXl.exact (.pointer (some ⟨w1.heap.size, 3, none⟩)) rfl rfl rfl rfl rfl (fun j τ w' hj hJ => by simp [rho, upd, Spec.val, execOp, go_sem]) ?_
      refine RXl.effj 5 rfl rfl rfl rfl rfl rfl (fun w' hJ => KJ.sto 3 (.int .i64 (x3 + 1)) _ rfl rfl rfl rfl (by kernel_rfl) rfl rfl rfl rfl rfl hJ) ?_
      refine RXl.exact ((.int .i64 3)) rfl rfl rfl rfl rfl (fun _ _ _ _ _ => rfl) ?_
      refine RXl.nilx _ (Agr.upd _ _ (Agr.upd _ _ (Agr.upd _ _ (Agr.upd _ _ (Agr.upd _ _ (Agr.upd _ _ (Agr.upd _ _ (Agr.upd _ _ (Agr.upd _ _ (Agr.upd _ _ (Agr.upd _ _ (Agr.upd _ _ (Agr.base _))))))))))))) fun w8 hJ => ?_
      obtain ⟨_, hJ⟩ := hJ
      simp only [Act.put, List.setIfInBounds_toArray, List.set_cons_succ, List.set_cons_zero]
      have HJ := Lib.hid hJ
      clear hJ
      go_wp2_with fail
      go_meet
      exact ⟨{ Rc.zero with kind := 1, key := keyAt x1, n := x2, sid := x3 + 1 }, 4, 3, _, _, by omega, by omega, rfl, rfl, by rw [Hrl.out]; show recK l 1 = _; unfold recK; simp only [Hx1.out, Hx2.out, Hx3.out], HJ.out⟩
    · skip
      have x1lo := nx_lo l 1 (n := 12) (by decide)
      have x1hi := nx_hi l 1 (n := 12) (by decide)
      have q := nextC HL.out pc pa pl 1 12 (by decide) (by omega) _ N1.out
      have hrk := Hrl.out
      have hrk2 : recL l = { Rc.zero with kind := 2, key := keyAt (nx l 1 12) } := hrk
      have hcl : wz.cell? ⟨pc, 0, none⟩ = some (.func (.func 16) #[] #[.pointer (some ⟨pa, 0, none⟩), .pointer (some ⟨pl, 0, none⟩)]) := NC.cell N1.out
      generalize nx l 1 12 = x1 at *
      have Q := Lib.hid q
      have HRK := Lib.hid hrk2
      clear q hrk hrk2 Hrl
      go_wp2_with fail
      refine Q.out.mono ?_
      rintro e w2 ⟨rfl, h2⟩
      have H2 := Lib.hid h2
      clear h2 Q hcl
      go_wp2_with fail
      refine (key_calls x1 x1lo x1hi w2).mono ?_
      rintro e w3 ⟨rfl, a3⟩
      have h3 := NC.keep H2.out a3
      have s3 := NC.front h3
      have d1 := s3.cell 1
      have g1 := s3.free 1
      unfold rcA at d1
      simp at d1
      have H3 := Lib.hid (NX.store (r := { Rc.zero with kind := 1 + 1 }) (r' := { Rc.zero with kind := 2, key := keyAt x1 }) 1 (str (keyAt x1)) rfl rfl rfl h3)
      clear h3 s3 a3 H2
      go_wp2_with fail
      go_meet
      exact ⟨{ Rc.zero with kind := 2, key := keyAt x1 }, 2, 0, _, _, by omega, by omega, rfl, rfl, HRK.out, H3.out⟩
    · skip
      have hrk := Hrl.out
      skip
      have x1lo := nx_lo l 1 (n := 12) (by decide)
      have x1hi := nx_hi l 1 (n := 12) (by decide)
      have x2lo := nx_lo l 2 (n := 50) (by decide)
      have x2hi := nx_hi l 2 (n := 50) (by decide)
      have x3lo := nx_lo l 3 (n := 3) (by decide)
      have x3hi := nx_hi l 3 (n := 3) (by decide)
      generalize hx1 : nx l 1 12 = x1 at x1lo x1hi
      have Hx1 := Lib.hid hx1
      clear hx1
      generalize hx2 : nx l 2 50 = x2 at x2lo x2hi
      have Hx2 := Lib.hid hx2
      clear hx2
      generalize hx3 : nx l 3 3 = x3 at x3lo x3hi
      have Hx3 := Lib.hid hx3
      clear hx3
      go_wp2_with fail
      refine wp_region_rx (KJ B w0 pc pa pl (.slice A l.length c) w1.heap.size (.slice none 0 0) (.slice none 0 0) (pts p2 (.cells #[.int .i64 0, str [], .int .i64 0, .int .i64 0, .slice none 0 0, .int .i64 0, .slice none 0 0, .int .i64 0, .int .i64 0, .int .i64 0, .int .i64 0, .int .i64 0, .int .i64 0] 27 (0, 0)) * R) [1, 2, 3, 4, 4, 4, 4] [{ Rc.zero with kind := 3 }, { Rc.zero with kind := 3 }, { Rc.zero with kind := 3 }, { Rc.zero with kind := 3 }, { Rc.zero with kind := 3, key := keyAt x1 }, { Rc.zero with kind := 3, key := keyAt x1, sid := x2 + 1 }, { Rc.zero with kind := 3, key := keyAt x1, sid := x2 + 1, colour := x3 }]) [1,4,7,9,11,13] mixed (by kernel_rfl) (by kernel_rfl) (St.drew N1.out) ?_
      refine RXl.exact (.func (.func 16) #[] #[.pointer (some ⟨pa, 0, none⟩), .pointer (some ⟨pl, 0, none⟩)]) rfl rfl rfl rfl rfl (fun j τ w' hj hJ => by have c := KJ.clo hJ; simp [rho, upd, Spec.val, execOp, go_sem, c]) ?_
      refine RXl.callp 0 (.int .i64 x1) (16) (#[.int .i64 12, .pointer (some ⟨pa, 0, none⟩), .pointer (some ⟨pl, 0, none⟩)]) rfl rfl rfl rfl rfl (fun w' => by simp [rho, upd, Spec.val, execOp, go_sem, resolve, invoke, Deferred.ofValue]) (fun w' hJ =>  (nextC HL.out pc pa pl 1 12 (by decide) (by omega) w' hJ).mono fun _ _ h => ⟨h.1.trans (by rw [Hx1.out]), h.2⟩) ?_
      refine RXl.callr (str (keyAt x1)) _ [.int .i64 x1] [.tmp 54] _ rfl rfl rfl rfl rfl rfl (fun _ => rfl) (fun j τ w' hj hJ => KJ.key (by omega) (by omega) hJ) ?_
      refine RXl.exact (.func (.func 16) #[] #[.pointer (some ⟨pa, 0, none⟩), .pointer (some ⟨pl, 0, none⟩)]) rfl rfl rfl rfl rfl (fun j τ w' hj hJ => by have c := KJ.clo hJ; simp [rho, upd, Spec.val, execOp, go_sem, c]) ?_
      refine RXl.callp 1 (.int .i64 x2) (16) (#[.int .i64 50, .pointer (some ⟨pa, 0, none⟩), .pointer (some ⟨pl, 0, none⟩)]) rfl rfl rfl rfl rfl (fun w' => by simp [rho, upd, Spec.val, execOp, go_sem, resolve, invoke, Deferred.ofValue]) (fun w' hJ =>  (nextC HL.out pc pa pl 2 50 (by decide) (by omega) w' hJ).mono fun _ _ h => ⟨h.1.trans (by rw [Hx2.out]), h.2⟩) ?_
      refine RXl.exact (.int .i64 (x2 + 1)) rfl rfl rfl rfl rfl (fun j τ w' hj hJ => by have e := wrapI (n := x2 + 1) (by omega) (by omega); simp [rho, upd, Spec.val, execOp, go_sem, e]) ?_
      refine RXl.exact (.func (.func 16) #[] #[.pointer (some ⟨pa, 0, none⟩), .pointer (some ⟨pl, 0, none⟩)]) rfl rfl rfl rfl rfl (fun j τ w' hj hJ => by have c := KJ.clo hJ; simp [rho, upd, Spec.val, execOp, go_sem, c]) ?_
      refine RXl.callp 2 (.int .i64 x3) (16) (#[.int .i64 3, .pointer (some ⟨pa, 0, none⟩), .pointer (some ⟨pl, 0, none⟩)]) rfl rfl rfl rfl rfl (fun w' => by simp [rho, upd, Spec.val, execOp, go_sem, resolve, invoke, Deferred.ofValue]) (fun w' hJ =>  (nextC HL.out pc pa pl 3 3 (by decide) (by omega) w' hJ).mono fun _ _ h => ⟨h.1.trans (by rw [Hx3.out]), h.2⟩) ?_
      refine RXl.exact (.pointer (some ⟨w1.heap.size, 1, none⟩)) rfl rfl rfl rfl rfl (fun j τ w' hj hJ => by simp [rho, upd, Spec.val, execOp, go_sem]) ?_
      refine RXl.effj 3 rfl rfl rfl rfl rfl rfl (fun w' hJ => KJ.sto 1 (str (keyAt x1)) _ rfl rfl rfl rfl (by kernel_rfl) rfl rfl rfl rfl rfl hJ) ?_
      refine RXl.exact (.pointer (some ⟨w1.heap.size, 3, none⟩)) rfl rfl rfl rfl rfl (fun j τ w' hj hJ => by simp [rho, upd, Spec.val, execOp, go_sem]) ?_
      refine RXl.effj 4 rfl rfl rfl rfl rfl rfl (fun w' hJ => KJ.sto 3 (.int .i64 (x2 + 1)) _ rfl rfl rfl rfl (by kernel_rfl) rfl rfl rfl rfl rfl hJ) ?_
      refine RXl.exact (.pointer (some ⟨w1.heap.size, 5, none⟩)) rfl rfl rfl rfl rfl (fun j τ w' hj hJ => by simp [rho, upd, Spec.val, execOp, go_sem]) ?_
      refine RXl.effj 5 rfl rfl rfl rfl rfl rfl (fun w' hJ => KJ.sto 5 (.int .i64 x3) _ rfl rfl rfl rfl (by kernel_rfl) rfl rfl rfl rfl rfl hJ) ?_
      refine RXl.exact ((.int .i64 6)) rfl rfl rfl rfl rfl (fun _ _ _ _ _ => rfl) ?_
      refine RXl.nilx _ (Agr.upd _ _ (Agr.upd _ _ (Agr.upd _ _ (Agr.upd _ _ (Agr.upd _ _ (Agr.upd _ _ (Agr.upd _ _ (Agr.upd _ _ (Agr.upd _ _ (Agr.upd _ _ (Agr.upd _ _ (Agr.upd _ _ (Agr.base _))))))))))))) fun w8 hJ => ?_
      obtain ⟨_, hJ⟩ := hJ
      simp only [Act.put, List.setIfInBounds_toArray, List.set_cons_succ, List.set_cons_zero]
      have HJ := Lib.hid hJ
      clear hJ
      go_wp2_with fail
      go_meet
      exact ⟨{ Rc.zero with kind := 3, key := keyAt x1, sid := x2 + 1, colour := x3 }, 4, 6, _, _, by omega, by omega, rfl, rfl, by rw [Hrl.out]; show recK l 3 = _; unfold recK; simp only [Hx1.out, Hx2.out, Hx3.out], HJ.out⟩
    · skip
      have hrk := Hrl.out
      skip
      have x1lo := nx_lo l 1 (n := 12) (by decide)
      have x1hi := nx_hi l 1 (n := 12) (by decide)
      have x2lo := nx_lo l 2 (n := 50) (by decide)
      have x2hi := nx_hi l 2 (n := 50) (by decide)
      generalize hx1 : nx l 1 12 = x1 at x1lo x1hi
      have Hx1 := Lib.hid hx1
      clear hx1
      generalize hx2 : nx l 2 50 = x2 at x2lo x2hi
      have Hx2 := Lib.hid hx2
      clear hx2
      go_wp2_with fail
      refine wp_region_rx (KJ B w0 pc pa pl (.slice A l.length c) w1.heap.size (.slice none 0 0) (.slice none 0 0) (pts p2 (.cells #[.int .i64 0, str [], .int .i64 0, .int .i64 0, .slice none 0 0, .int .i64 0, .slice none 0 0, .int .i64 0, .int .i64 0, .int .i64 0, .int .i64 0, .int .i64 0, .int .i64 0] 27 (0, 0)) * R) [1, 2, 3, 3, 3] [{ Rc.zero with kind := 4 }, { Rc.zero with kind := 4 }, { Rc.zero with kind := 4 }, { Rc.zero with kind := 4, key := keyAt x1 }, { Rc.zero with kind := 4, key := keyAt x1, sid := x2 + 1 }]) [1,4,7,9] mixed (by kernel_rfl) (by kernel_rfl) (St.drew N1.out) ?_
      refine RXl.exact (.func (.func 16) #[] #[.pointer (some ⟨pa, 0, none⟩), .pointer (some ⟨pl, 0, none⟩)]) rfl rfl rfl rfl rfl (fun j τ w' hj hJ => by have c := KJ.clo hJ; simp [rho, upd, Spec.val, execOp, go_sem, c]) ?_
      refine RXl.callp 0 (.int .i64 x1) (16) (#[.int .i64 12, .pointer (some ⟨pa, 0, none⟩), .pointer (some ⟨pl, 0, none⟩)]) rfl rfl rfl rfl rfl (fun w' => by simp [rho, upd, Spec.val, execOp, go_sem, resolve, invoke, Deferred.ofValue]) (fun w' hJ =>  (nextC HL.out pc pa pl 1 12 (by decide) (by omega) w' hJ).mono fun _ _ h => ⟨h.1.trans (by rw [Hx1.out]), h.2⟩) ?_
      refine RXl.callr (str (keyAt x1)) _ [.int .i64 x1] [.tmp 67] _ rfl rfl rfl rfl rfl rfl (fun _ => rfl) (fun j τ w' hj hJ => KJ.key (by omega) (by omega) hJ) ?_
      refine RXl.exact (.func (.func 16) #[] #[.pointer (some ⟨pa, 0, none⟩), .pointer (some ⟨pl, 0, none⟩)]) rfl rfl rfl rfl rfl (fun j τ w' hj hJ => by have c := KJ.clo hJ; simp [rho, upd, Spec.val, execOp, go_sem, c]) ?_
      refine RXl.callp 1 (.int .i64 x2) (16) (#[.int .i64 50, .pointer (some ⟨pa, 0, none⟩), .pointer (some ⟨pl, 0, none⟩)]) rfl rfl rfl rfl rfl (fun w' => by simp [rho, upd, Spec.val, execOp, go_sem, resolve, invoke, Deferred.ofValue]) (fun w' hJ =>  (nextC HL.out pc pa pl 2 50 (by decide) (by omega) w' hJ).mono fun _ _ h => ⟨h.1.trans (by rw [Hx2.out]), h.2⟩) ?_
      refine RXl.exact (.int .i64 (x2 + 1)) rfl rfl rfl rfl rfl (fun j τ w' hj hJ => by have e := wrapI (n := x2 + 1) (by omega) (by omega); simp [rho, upd, Spec.val, execOp, go_sem, e]) ?_
      refine RXl.exact (.pointer (some ⟨w1.heap.size, 1, none⟩)) rfl rfl rfl rfl rfl (fun j τ w' hj hJ => by simp [rho, upd, Spec.val, execOp, go_sem]) ?_
      refine RXl.effj 2 rfl rfl rfl rfl rfl rfl (fun w' hJ => KJ.sto 1 (str (keyAt x1)) _ rfl rfl rfl rfl (by kernel_rfl) rfl rfl rfl rfl rfl hJ) ?_
      refine RXl.exact (.pointer (some ⟨w1.heap.size, 3, none⟩)) rfl rfl rfl rfl rfl (fun j τ w' hj hJ => by simp [rho, upd, Spec.val, execOp, go_sem]) ?_
      refine RXl.effj 3 rfl rfl rfl rfl rfl rfl (fun w' hJ => KJ.sto 3 (.int .i64 (x2 + 1)) _ rfl rfl rfl rfl (by kernel_rfl) rfl rfl rfl rfl rfl hJ) ?_
      refine RXl.exact ((.int .i64 3)) rfl rfl rfl rfl rfl (fun _ _ _ _ _ => rfl) ?_
      refine RXl.nilx _ (Agr.upd _ _ (Agr.upd _ _ (Agr.upd _ _ (Agr.upd _ _ (Agr.upd _ _ (Agr.upd _ _ (Agr.upd _ _ (Agr.upd _ _ (Agr.upd _ _ (Agr.base _)))))))))) fun w8 hJ => ?_
      obtain ⟨_, hJ⟩ := hJ
      simp only [Act.put, List.setIfInBounds_toArray, List.set_cons_succ, List.set_cons_zero]
      have HJ := Lib.hid hJ
      clear hJ
      go_wp2_with fail
      go_meet
      exact ⟨{ Rc.zero with kind := 4, key := keyAt x1, sid := x2 + 1 }, 3, 3, _, _, by omega, by omega, rfl, rfl, by rw [Hrl.out]; show recK l 4 = _; unfold recK; simp only [Hx1.out, Hx2.out], HJ.out⟩
    · skip
      have x1lo := nx_lo l 1 (n := 50) (by decide)
      have x1hi := nx_hi l 1 (n := 50) (by decide)
      have x2lo := nx_lo l 2 (n := 50) (by decide)
      have x2hi := nx_hi l 2 (n := 50) (by decide)
      have x3lo := nx_lo l 3 (n := 50) (by decide)
      have x3hi := nx_hi l 3 (n := 50) (by decide)
      have x4lo := nx_lo l 4 (n := 50) (by decide)
      have x4hi := nx_hi l 4 (n := 50) (by decide)
      generalize hx1 : nx l 1 50 = x1 at x1lo x1hi
      have Hx1 := Lib.hid hx1
      clear hx1
      generalize hx2 : nx l 2 50 = x2 at x2lo x2hi
      have Hx2 := Lib.hid hx2
      clear hx2
      generalize hx3 : nx l 3 50 = x3 at x3lo x3hi
      have Hx3 := Lib.hid hx3
      clear hx3
      generalize hx4 : nx l 4 50 = x4 at x4lo x4hi
      have Hx4 := Lib.hid hx4
      clear hx4
      go_wp2_with fail
      refine wp_region_rz (fun D _ w => ZK B w0 pc pa pl (.slice A l.length c) w1.heap.size 5 (x1 + 1) (x2 + 1) (x3 + 1) (x4 + 1) wz.heap.size (pts p2 (.cells #[.int .i64 0, str [], .int .i64 0, .int .i64 0, .slice none 0 0, .int .i64 0, .slice none 0 0, .int .i64 0, .int .i64 0, .int .i64 0, .int .i64 0, .int .i64 0, .int .i64 0] 27 (0, 0)) * R) 1 4 7 10 12 14 16 D w) [1, 4, 7, 10, 12, 14, 16] mixed (by kernel_rfl) (by kernel_rfl) (fun D D' _ _ _ h _ hI => ZK.loc (h 1 (by decide)) (h 4 (by decide)) (h 7 (by decide)) (h 10 (by decide)) (h 12 (by decide)) (h 14 (by decide)) (h 16 (by decide)) hI) ⟨St.drew N1.out, rfl⟩ ?_
      refine RZl.exact (.func (.func 16) #[] #[.pointer (some ⟨pa, 0, none⟩), .pointer (some ⟨pl, 0, none⟩)]) rfl rfl rfl rfl rfl (fun D τ w' hJ => by have c := MZ.clo hJ; simp [rho, upd, Spec.val, execOp, go_sem, c]) ?_
      refine RZl.callz (.int .i64 x1) (16) (#[.int .i64 50, .pointer (some ⟨pa, 0, none⟩), .pointer (some ⟨pl, 0, none⟩)]) rfl rfl rfl rfl rfl (fun w' => by simp [rho, upd, Spec.val, execOp, go_sem, resolve, invoke, Deferred.ofValue]) (fun w' D hal hJ =>  (by have a0 := hal.self rfl; have c4 := hal.not 4 rfl (by kernel_rfl); have c7 := hal.not 7 rfl (by kernel_rfl); have c10 := hal.not 10 rfl (by kernel_rfl); exact ZK.call (D := D) HL.out 1 50 x1 Hx1.out (by decide) (by omega) (by simp [nn, dset, a0, c4, c7, c10]) (by simp [nn, dset, a0, c4, c7, c10]) rfl rfl rfl hJ)) ?_
      refine RZl.exact (.int .i64 (x1 + 1)) rfl rfl rfl rfl rfl (fun D τ w' hJ => by have e := wrapI (n := x1 + 1) (by omega) (by omega); simp [rho, upd, Spec.val, execOp, go_sem, e]) ?_
      refine RZl.exact (.func (.func 16) #[] #[.pointer (some ⟨pa, 0, none⟩), .pointer (some ⟨pl, 0, none⟩)]) rfl rfl rfl rfl rfl (fun D τ w' hJ => by have c := MZ.clo hJ; simp [rho, upd, Spec.val, execOp, go_sem, c]) ?_
      refine RZl.callz (.int .i64 x2) (16) (#[.int .i64 50, .pointer (some ⟨pa, 0, none⟩), .pointer (some ⟨pl, 0, none⟩)]) rfl rfl rfl rfl rfl (fun w' => by simp [rho, upd, Spec.val, execOp, go_sem, resolve, invoke, Deferred.ofValue]) (fun w' D hal hJ =>  (by have a0 := hal.self rfl; have b1 := hal.done 1 rfl (by kernel_rfl); have c7 := hal.not 7 rfl (by kernel_rfl); have c10 := hal.not 10 rfl (by kernel_rfl); exact ZK.call (D := D) HL.out 2 50 x2 Hx2.out (by decide) (by omega) (by simp [nn, dset, a0, b1, c7, c10]) (by simp [nn, dset, a0, b1, c7, c10]) rfl rfl rfl hJ)) ?_
      refine RZl.exact (.int .i64 (x2 + 1)) rfl rfl rfl rfl rfl (fun D τ w' hJ => by have e := wrapI (n := x2 + 1) (by omega) (by omega); simp [rho, upd, Spec.val, execOp, go_sem, e]) ?_
      refine RZl.exact (.func (.func 16) #[] #[.pointer (some ⟨pa, 0, none⟩), .pointer (some ⟨pl, 0, none⟩)]) rfl rfl rfl rfl rfl (fun D τ w' hJ => by have c := MZ.clo hJ; simp [rho, upd, Spec.val, execOp, go_sem, c]) ?_
      refine RZl.callz (.int .i64 x3) (16) (#[.int .i64 50, .pointer (some ⟨pa, 0, none⟩), .pointer (some ⟨pl, 0, none⟩)]) rfl rfl rfl rfl rfl (fun w' => by simp [rho, upd, Spec.val, execOp, go_sem, resolve, invoke, Deferred.ofValue]) (fun w' D hal hJ =>  (by have a0 := hal.self rfl; have b1 := hal.done 1 rfl (by kernel_rfl); have b4 := hal.done 4 rfl (by kernel_rfl); have c10 := hal.not 10 rfl (by kernel_rfl); exact ZK.call (D := D) HL.out 3 50 x3 Hx3.out (by decide) (by omega) (by simp [nn, dset, a0, b1, b4, c10]) (by simp [nn, dset, a0, b1, b4, c10]) rfl rfl rfl hJ)) ?_
      refine RZl.exact (.int .i64 (x3 + 1)) rfl rfl rfl rfl rfl (fun D τ w' hJ => by have e := wrapI (n := x3 + 1) (by omega) (by omega); simp [rho, upd, Spec.val, execOp, go_sem, e]) ?_
      refine RZl.exact (.func (.func 16) #[] #[.pointer (some ⟨pa, 0, none⟩), .pointer (some ⟨pl, 0, none⟩)]) rfl rfl rfl rfl rfl (fun D τ w' hJ => by have c := MZ.clo hJ; simp [rho, upd, Spec.val, execOp, go_sem, c]) ?_
      refine RZl.callz (.int .i64 x4) (16) (#[.int .i64 50, .pointer (some ⟨pa, 0, none⟩), .pointer (some ⟨pl, 0, none⟩)]) rfl rfl rfl rfl rfl (fun w' => by simp [rho, upd, Spec.val, execOp, go_sem, resolve, invoke, Deferred.ofValue]) (fun w' D hal hJ =>  (by have a0 := hal.self rfl; have b1 := hal.done 1 rfl (by kernel_rfl); have b4 := hal.done 4 rfl (by kernel_rfl); have b7 := hal.done 7 rfl (by kernel_rfl); exact ZK.call (D := D) HL.out 4 50 x4 Hx4.out (by decide) (by omega) (by simp [nn, dset, a0, b1, b4, b7]) (by simp [nn, dset, a0, b1, b4, b7]) rfl rfl rfl hJ)) ?_
      refine RZl.exact (.int .i64 (x4 + 1)) rfl rfl rfl rfl rfl (fun D τ w' hJ => by have e := wrapI (n := x4 + 1) (by omega) (by omega); simp [rho, upd, Spec.val, execOp, go_sem, e]) ?_
      refine RZl.effz (.slice (some ⟨wz.heap.size, 0, none⟩) 3 3) rfl rfl rfl rfl rfl (fun w' D hal hJ => (by have a0 := hal.self rfl; have c1 := hal.not 16 rfl (by kernel_rfl); exact ZK.lit (D := D) rfl rfl rfl rfl (by simp [nn, dset]) a0 (by simp [dset]) rfl (by simp [dset, c1]) hJ)) ?_
      refine RZl.exact (.pointer (some ⟨w1.heap.size, 3, none⟩)) rfl rfl rfl rfl rfl (fun D τ w' hJ => by simp [rho, upd, Spec.val, execOp, go_sem]) ?_
      refine RZl.stoz rfl rfl rfl rfl rfl rfl (fun w' D hal hJ => (ZK.sid (D := D) rfl rfl rfl (by simp [nn, dset]) rfl (by simp [dset]) rfl hJ)) ?_
      refine RZl.exact (.pointer (some ⟨w1.heap.size, 4, none⟩)) rfl rfl rfl rfl rfl (fun D τ w' hJ => by simp [rho, upd, Spec.val, execOp, go_sem]) ?_
      refine RZl.stoz rfl rfl rfl rfl rfl rfl (fun w' D hal hJ => (by have a0 := hal.self rfl; have b1 := hal.done 12 rfl (by kernel_rfl); exact ZK.sids (D := D) rfl rfl rfl (by simp [nn, dset]) b1 (by simp [dset, b1]) rfl a0 (by simp [dset]) hJ)) ?_
      refine RZl.exact ((.int .i64 4)) rfl rfl rfl rfl rfl (fun _ _ _ _ => rfl) ?_
      refine RZl.nilz _ (Agr.upd _ _ (Agr.upd _ _ (Agr.upd _ _ (Agr.upd _ _ (Agr.upd _ _ (Agr.upd _ _ (Agr.upd _ _ (Agr.upd _ _ (Agr.upd _ _ (Agr.upd _ _ (Agr.upd _ _ (Agr.upd _ _ (Agr.upd _ _ (Agr.upd _ _ (Agr.upd _ _ (Agr.upd _ _ (Agr.base _))))))))))))))))) fun w8 hJ => ?_
      simp only [Act.put, List.setIfInBounds_toArray, List.set_cons_succ, List.set_cons_zero]
      have HJ := Lib.hid hJ
      clear hJ
      go_wp2_with fail
      go_meet
      exact ⟨{ Rc.zero with kind := 5, sid := x1 + 1, sids := [x2 + 1, x3 + 1, x4 + 1] }, 5, 4, _, _, by omega, by omega, rfl, rfl, by rw [Hrl.out]; show recK l 5 = _; unfold recK; simp only [Hx1.out, Hx2.out, Hx3.out, Hx4.out], HJ.out⟩
    · skip
      have x1lo := nx_lo l 1 (n := 50) (by decide)
      have x1hi := nx_hi l 1 (n := 50) (by decide)
      have x2lo := nx_lo l 2 (n := 50) (by decide)
      have x2hi := nx_hi l 2 (n := 50) (by decide)
      have x3lo := nx_lo l 3 (n := 50) (by decide)
      have x3hi := nx_hi l 3 (n := 50) (by decide)
      have x4lo := nx_lo l 4 (n := 50) (by decide)
      have x4hi := nx_hi l 4 (n := 50) (by decide)
      generalize hx1 : nx l 1 50 = x1 at x1lo x1hi
      have Hx1 := Lib.hid hx1
      clear hx1
      generalize hx2 : nx l 2 50 = x2 at x2lo x2hi
      have Hx2 := Lib.hid hx2
      clear hx2
      generalize hx3 : nx l 3 50 = x3 at x3lo x3hi
      have Hx3 := Lib.hid hx3
      clear hx3
      generalize hx4 : nx l 4 50 = x4 at x4lo x4hi
      have Hx4 := Lib.hid hx4
      clear hx4
      go_wp2_with fail
      refine wp_region_rz (fun D _ w => ZK B w0 pc pa pl (.slice A l.length c) w1.heap.size 6 (x1 + 1) x2 x3 x4 wz.heap.size (pts p2 (.cells #[.int .i64 0, str [], .int .i64 0, .int .i64 0, .slice none 0 0, .int .i64 0, .slice none 0 0, .int .i64 0, .int .i64 0, .int .i64 0, .int .i64 0, .int .i64 0, .int .i64 0] 27 (0, 0)) * R) 1 4 6 8 9 11 13 D w) [1, 4, 6, 8, 9, 11, 13] mixed (by kernel_rfl) (by kernel_rfl) (fun D D' _ _ _ h _ hI => ZK.loc (h 1 (by decide)) (h 4 (by decide)) (h 6 (by decide)) (h 8 (by decide)) (h 9 (by decide)) (h 11 (by decide)) (h 13 (by decide)) hI) ⟨St.drew N1.out, rfl⟩ ?_
      refine RZl.exact (.func (.func 16) #[] #[.pointer (some ⟨pa, 0, none⟩), .pointer (some ⟨pl, 0, none⟩)]) rfl rfl rfl rfl rfl (fun D τ w' hJ => by have c := MZ.clo hJ; simp [rho, upd, Spec.val, execOp, go_sem, c]) ?_
      refine RZl.callz (.int .i64 x1) (16) (#[.int .i64 50, .pointer (some ⟨pa, 0, none⟩), .pointer (some ⟨pl, 0, none⟩)]) rfl rfl rfl rfl rfl (fun w' => by simp [rho, upd, Spec.val, execOp, go_sem, resolve, invoke, Deferred.ofValue]) (fun w' D hal hJ =>  (by have a0 := hal.self rfl; have c4 := hal.not 4 rfl (by kernel_rfl); have c6 := hal.not 6 rfl (by kernel_rfl); have c8 := hal.not 8 rfl (by kernel_rfl); exact ZK.call (D := D) HL.out 1 50 x1 Hx1.out (by decide) (by omega) (by simp [nn, dset, a0, c4, c6, c8]) (by simp [nn, dset, a0, c4, c6, c8]) rfl rfl rfl hJ)) ?_
      refine RZl.exact (.int .i64 (x1 + 1)) rfl rfl rfl rfl rfl (fun D τ w' hJ => by have e := wrapI (n := x1 + 1) (by omega) (by omega); simp [rho, upd, Spec.val, execOp, go_sem, e]) ?_
      refine RZl.exact (.func (.func 16) #[] #[.pointer (some ⟨pa, 0, none⟩), .pointer (some ⟨pl, 0, none⟩)]) rfl rfl rfl rfl rfl (fun D τ w' hJ => by have c := MZ.clo hJ; simp [rho, upd, Spec.val, execOp, go_sem, c]) ?_
      refine RZl.callz (.int .i64 x2) (16) (#[.int .i64 50, .pointer (some ⟨pa, 0, none⟩), .pointer (some ⟨pl, 0, none⟩)]) rfl rfl rfl rfl rfl (fun w' => by simp [rho, upd, Spec.val, execOp, go_sem, resolve, invoke, Deferred.ofValue]) (fun w' D hal hJ =>  (by have a0 := hal.self rfl; have b1 := hal.done 1 rfl (by kernel_rfl); have c6 := hal.not 6 rfl (by kernel_rfl); have c8 := hal.not 8 rfl (by kernel_rfl); exact ZK.call (D := D) HL.out 2 50 x2 Hx2.out (by decide) (by omega) (by simp [nn, dset, a0, b1, c6, c8]) (by simp [nn, dset, a0, b1, c6, c8]) rfl rfl rfl hJ)) ?_
      refine RZl.exact (.func (.func 16) #[] #[.pointer (some ⟨pa, 0, none⟩), .pointer (some ⟨pl, 0, none⟩)]) rfl rfl rfl rfl rfl (fun D τ w' hJ => by have c := MZ.clo hJ; simp [rho, upd, Spec.val, execOp, go_sem, c]) ?_
      refine RZl.callz (.int .i64 x3) (16) (#[.int .i64 50, .pointer (some ⟨pa, 0, none⟩), .pointer (some ⟨pl, 0, none⟩)]) rfl rfl rfl rfl rfl (fun w' => by simp [rho, upd, Spec.val, execOp, go_sem, resolve, invoke, Deferred.ofValue]) (fun w' D hal hJ =>  (by have a0 := hal.self rfl; have b1 := hal.done 1 rfl (by kernel_rfl); have b4 := hal.done 4 rfl (by kernel_rfl); have c8 := hal.not 8 rfl (by kernel_rfl); exact ZK.call (D := D) HL.out 3 50 x3 Hx3.out (by decide) (by omega) (by simp [nn, dset, a0, b1, b4, c8]) (by simp [nn, dset, a0, b1, b4, c8]) rfl rfl rfl hJ)) ?_
      refine RZl.exact (.func (.func 16) #[] #[.pointer (some ⟨pa, 0, none⟩), .pointer (some ⟨pl, 0, none⟩)]) rfl rfl rfl rfl rfl (fun D τ w' hJ => by have c := MZ.clo hJ; simp [rho, upd, Spec.val, execOp, go_sem, c]) ?_
      refine RZl.callz (.int .i64 x4) (16) (#[.int .i64 50, .pointer (some ⟨pa, 0, none⟩), .pointer (some ⟨pl, 0, none⟩)]) rfl rfl rfl rfl rfl (fun w' => by simp [rho, upd, Spec.val, execOp, go_sem, resolve, invoke, Deferred.ofValue]) (fun w' D hal hJ =>  (by have a0 := hal.self rfl; have b1 := hal.done 1 rfl (by kernel_rfl); have b4 := hal.done 4 rfl (by kernel_rfl); have b6 := hal.done 6 rfl (by kernel_rfl); exact ZK.call (D := D) HL.out 4 50 x4 Hx4.out (by decide) (by omega) (by simp [nn, dset, a0, b1, b4, b6]) (by simp [nn, dset, a0, b1, b4, b6]) rfl rfl rfl hJ)) ?_
      refine RZl.effz (.slice (some ⟨wz.heap.size, 0, none⟩) 3 3) rfl rfl rfl rfl rfl (fun w' D hal hJ => (by have a0 := hal.self rfl; have c1 := hal.not 13 rfl (by kernel_rfl); exact ZK.lit (D := D) rfl rfl rfl rfl (by simp [nn, dset]) a0 (by simp [dset]) rfl (by simp [dset, c1]) hJ)) ?_
      refine RZl.exact (.pointer (some ⟨w1.heap.size, 3, none⟩)) rfl rfl rfl rfl rfl (fun D τ w' hJ => by simp [rho, upd, Spec.val, execOp, go_sem]) ?_
      refine RZl.stoz rfl rfl rfl rfl rfl rfl (fun w' D hal hJ => (ZK.sid (D := D) rfl rfl rfl (by simp [nn, dset]) rfl (by simp [dset]) rfl hJ)) ?_
      refine RZl.exact (.pointer (some ⟨w1.heap.size, 4, none⟩)) rfl rfl rfl rfl rfl (fun D τ w' hJ => by simp [rho, upd, Spec.val, execOp, go_sem]) ?_
      refine RZl.stoz rfl rfl rfl rfl rfl rfl (fun w' D hal hJ => (by have a0 := hal.self rfl; have b1 := hal.done 9 rfl (by kernel_rfl); exact ZK.sids (D := D) rfl rfl rfl (by simp [nn, dset]) b1 (by simp [dset, b1]) rfl a0 (by simp [dset]) hJ)) ?_
      refine RZl.nilz _ (Agr.upd _ _ (Agr.upd _ _ (Agr.upd _ _ (Agr.upd _ _ (Agr.upd _ _ (Agr.upd _ _ (Agr.upd _ _ (Agr.upd _ _ (Agr.upd _ _ (Agr.upd _ _ (Agr.upd _ _ (Agr.upd _ _ (Agr.base _))))))))))))) fun w8 hJ => ?_
      simp only [Act.put, List.setIfInBounds_toArray, List.set_cons_succ, List.set_cons_zero]
      have h8 : NX B w0 pc pa pl 5 (.slice A l.length c) w1.heap.size { Rc.zero with kind := 6, sid := x1 + 1, sids := [x2, x3, x4] } (.slice (some ⟨wz.heap.size, 0, none⟩) 3 3) (.slice none 0 0) (pts p2 (.cells #[.int .i64 0, str [], .int .i64 0, .int .i64 0, .slice none 0 0, .int .i64 0, .slice none 0 0, .int .i64 0, .int .i64 0, .int .i64 0, .int .i64 0, .int .i64 0, .int .i64 0] 27 (0, 0)) * R) w8 := hJ
      have c4 := (NC.front h8).cell 4
      unfold rcA at c4
      simp at c4
      have hIS : IS w8 (.slice (some ⟨wz.heap.size, 0, none⟩) 3 3) [x2, x3, x4] := St.iS (l := [x2, x3, x4]) (NC.front h8).right.right.right.right
      have H8 := Lib.hid h8
      have HIS := Lib.hid hIS
      clear hJ h8 hIS N1
      go_wp2_with fail
      go_loopw [7, 8] (fun v7 i wr => ∃ n : Nat, n ≤ 3 ∧ i = .int .i64 n ∧ v7 = .int .i64 (nz ([x2, x3, x4].take n) : Nat) ∧ wr = w8) (fun _ i _ => 3 - (intOf i).toNat)
      case atStart => exact ⟨0, Nat.zero_le _, rfl, rfl, rfl⟩
      case round =>
        obtain ⟨n, hn, rfl, rfl, rfl⟩ := hrel
        by_cases hlt : n < 3
        · have hc := HIS.out.cellAt n hlt
          rw [Nat.zero_add] at hc
          have hst := nz_take [x2, x3, x4] n hlt
          have hle := nz_le ([x2, x3, x4].take n)
          have htl : ([x2, x3, x4].take n).length = n := by rw [List.length_take]; exact Nat.min_eq_left (Nat.le_of_lt hlt)
          have hb : nz ([x2, x3, x4].take n) ≤ 100 := by omega
          generalize nz ([x2, x3, x4].take n) = m0 at *
          generalize [x2, x3, x4][n] = y at *
          have hltI : (n : Int) < 3 := by omega
          clear hle htl
          by_cases hy : y = 0
          · have Hst := Lib.hid (show nz ([x2, x3, x4].take (n + 1)) = m0 by rw [hst, if_pos hy]; omega)
            clear hst
            go_wp2_with fail
            exact ⟨⟨n + 1, by omega, by go_num, by rw [Hst.out], trivial⟩, by simp [intOf]; omega⟩
          · have Hst := Lib.hid (show nz ([x2, x3, x4].take (n + 1)) = m0 + 2 by rw [hst, if_neg hy])
            clear hst
            go_wp2_with fail
            exact ⟨⟨n + 1, by omega, by go_num, by rw [Hst.out]; go_num, trivial⟩, by simp [intOf]; omega⟩
        · obtain rfl : n = 3 := by omega
          have hz6 : nz ([x2, x3, x4].take 3) ≤ 6 := nz_le _
          have hzz : nz ([x2, x3, x4].take 3) = nz [x2, x3, x4] := rfl
          rw [hzz] at hz6 ⊢
          clear hlt hn hzz
          go_wp2_with fail
          go_meet
          exact ⟨{ Rc.zero with kind := 6, sid := x1 + 1, sids := [x2, x3, x4] }, 5, nz [x2, x3, x4], _, _, hz6, by omega, rfl, rfl, by rw [Hrl.out]; show recK l 6 = _; unfold recK; simp only [Hx1.out, Hx2.out, Hx3.out, Hx4.out], H8.out⟩
    · skip
      have hrk := Hrl.out
      skip
      have x1lo := nx_lo l 1 (n := 50) (by decide)
      have x1hi := nx_hi l 1 (n := 50) (by decide)
      have x2lo := nx_lo l 2 (n := 16) (by decide)
      have x2hi := nx_hi l 2 (n := 16) (by decide)
      generalize hx1 : nx l 1 50 = x1 at x1lo x1hi
      have Hx1 := Lib.hid hx1
      clear hx1
      generalize hx2 : nx l 2 16 = x2 at x2lo x2hi
      have Hx2 := Lib.hid hx2
      clear hx2
      go_wp2_with fail
      refine wp_region_rx (KJ B w0 pc pa pl (.slice A l.length c) w1.heap.size (.slice none 0 0) (.slice none 0 0) (pts p2 (.cells #[.int .i64 0, str [], .int .i64 0, .int .i64 0, .slice none 0 0, .int .i64 0, .slice none 0 0, .int .i64 0, .int .i64 0, .int .i64 0, .int .i64 0, .int .i64 0, .int .i64 0] 27 (0, 0)) * R) [1, 2, 3, 3, 3] [{ Rc.zero with kind := 7 }, { Rc.zero with kind := 7 }, { Rc.zero with kind := 7 }, { Rc.zero with kind := 7, sid := x1 + 1 }, { Rc.zero with kind := 7, sid := x1 + 1, n := x2 }]) [1,4,6,8] mixed (by kernel_rfl) (by kernel_rfl) (St.drew N1.out) ?_
      refine RXl.exact (.func (.func 16) #[] #[.pointer (some ⟨pa, 0, none⟩), .pointer (some ⟨pl, 0, none⟩)]) rfl rfl rfl rfl rfl (fun j τ w' hj hJ => by have c := KJ.clo hJ; simp [rho, upd, Spec.val, execOp, go_sem, c]) ?_
      refine RXl.callp 0 (.int .i64 x1) (16) (#[.int .i64 50, .pointer (some ⟨pa, 0, none⟩), .pointer (some ⟨pl, 0, none⟩)]) rfl rfl rfl rfl rfl (fun w' => by simp [rho, upd, Spec.val, execOp, go_sem, resolve, invoke, Deferred.ofValue]) (fun w' hJ =>  (nextC HL.out pc pa pl 1 50 (by decide) (by omega) w' hJ).mono fun _ _ h => ⟨h.1.trans (by rw [Hx1.out]), h.2⟩) ?_
      refine RXl.exact (.int .i64 (x1 + 1)) rfl rfl rfl rfl rfl (fun j τ w' hj hJ => by have e := wrapI (n := x1 + 1) (by omega) (by omega); simp [rho, upd, Spec.val, execOp, go_sem, e]) ?_
      refine RXl.exact (.func (.func 16) #[] #[.pointer (some ⟨pa, 0, none⟩), .pointer (some ⟨pl, 0, none⟩)]) rfl rfl rfl rfl rfl (fun j τ w' hj hJ => by have c := KJ.clo hJ; simp [rho, upd, Spec.val, execOp, go_sem, c]) ?_
      refine RXl.callp 1 (.int .i64 x2) (16) (#[.int .i64 16, .pointer (some ⟨pa, 0, none⟩), .pointer (some ⟨pl, 0, none⟩)]) rfl rfl rfl rfl rfl (fun w' => by simp [rho, upd, Spec.val, execOp, go_sem, resolve, invoke, Deferred.ofValue]) (fun w' hJ =>  (nextC HL.out pc pa pl 2 16 (by decide) (by omega) w' hJ).mono fun _ _ h => ⟨h.1.trans (by rw [Hx2.out]), h.2⟩) ?_
      refine RXl.exact (.pointer (some ⟨w1.heap.size, 3, none⟩)) rfl rfl rfl rfl rfl (fun j τ w' hj hJ => by simp [rho, upd, Spec.val, execOp, go_sem]) ?_
      refine RXl.effj 2 rfl rfl rfl rfl rfl rfl (fun w' hJ => KJ.sto 3 (.int .i64 (x1 + 1)) _ rfl rfl rfl rfl (by kernel_rfl) rfl rfl rfl rfl rfl hJ) ?_
      refine RXl.exact (.pointer (some ⟨w1.heap.size, 2, none⟩)) rfl rfl rfl rfl rfl (fun j τ w' hj hJ => by simp [rho, upd, Spec.val, execOp, go_sem]) ?_
      refine RXl.effj 3 rfl rfl rfl rfl rfl rfl (fun w' hJ => KJ.sto 2 (.int .i64 x2) _ rfl rfl rfl rfl (by kernel_rfl) rfl rfl rfl rfl rfl hJ) ?_
      refine RXl.exact ((.int .i64 1)) rfl rfl rfl rfl rfl (fun _ _ _ _ _ => rfl) ?_
      refine RXl.nilx _ (Agr.upd _ _ (Agr.upd _ _ (Agr.upd _ _ (Agr.upd _ _ (Agr.upd _ _ (Agr.upd _ _ (Agr.upd _ _ (Agr.upd _ _ (Agr.base _))))))))) fun w8 hJ => ?_
      obtain ⟨_, hJ⟩ := hJ
      simp only [Act.put, List.setIfInBounds_toArray, List.set_cons_succ, List.set_cons_zero]
      have HJ := Lib.hid hJ
      clear hJ
      go_wp2_with fail
      go_meet
      exact ⟨{ Rc.zero with kind := 7, sid := x1 + 1, n := x2 }, 3, 1, _, _, by omega, by omega, rfl, rfl, by rw [Hrl.out]; show recK l 7 = _; unfold recK; simp only [Hx1.out, Hx2.out], HJ.out⟩
    · skip
      have hrk := Hrl.out
      skip
      have x1lo := nx_lo l 1 (n := 100) (by decide)
      have x1hi := nx_hi l 1 (n := 100) (by decide)
      have x2lo := nx_lo l 2 (n := 50) (by decide)
      have x2hi := nx_hi l 2 (n := 50) (by decide)
      have x3lo := nx_lo l 3 (n := 20) (by decide)
      have x3hi := nx_hi l 3 (n := 20) (by decide)
      have x4lo := nx_lo l 4 (n := 50) (by decide)
      have x4hi := nx_hi l 4 (n := 50) (by decide)
      have x5lo := nx_lo l 5 (n := 1000) (by decide)
      have x5hi := nx_hi l 5 (n := 1000) (by decide)
      have x6lo := nx_lo l 6 (n := 10) (by decide)
      have x6hi := nx_hi l 6 (n := 10) (by decide)
      generalize hx1 : nx l 1 100 = x1 at x1lo x1hi
      have Hx1 := Lib.hid hx1
      clear hx1
      generalize hx2 : nx l 2 50 = x2 at x2lo x2hi
      have Hx2 := Lib.hid hx2
      clear hx2
      generalize hx3 : nx l 3 20 = x3 at x3lo x3hi
      have Hx3 := Lib.hid hx3
      clear hx3
      generalize hx4 : nx l 4 50 = x4 at x4lo x4hi
      have Hx4 := Lib.hid hx4
      clear hx4
      generalize hx5 : nx l 5 1000 = x5 at x5lo x5hi
      have Hx5 := Lib.hid hx5
      clear hx5
      generalize hx6 : nx l 6 10 = x6 at x6lo x6hi
      have Hx6 := Lib.hid hx6
      clear hx6
      go_wp2_with fail
      refine wp_region_rx (KJ B w0 pc pa pl (.slice A l.length c) w1.heap.size (.slice none 0 0) (.slice none 0 0) (pts p2 (.cells #[.int .i64 0, str [], .int .i64 0, .int .i64 0, .slice none 0 0, .int .i64 0, .slice none 0 0, .int .i64 0, .int .i64 0, .int .i64 0, .int .i64 0, .int .i64 0, .int .i64 0] 27 (0, 0)) * R) [1, 2, 3, 4, 5, 6, 7, 7] [{ Rc.zero with kind := 8 }, { Rc.zero with kind := 8 }, { Rc.zero with kind := 8 }, { Rc.zero with kind := 8 }, { Rc.zero with kind := 8 }, { Rc.zero with kind := 8 }, { Rc.zero with kind := 8 }, { Rc.zero with kind := 8, tab := ⟨x1, x2, x3, x4, x5, x6⟩ }]) [1,3,5,7,9,11,14] mixed (by kernel_rfl) (by kernel_rfl) (St.drew N1.out) ?_
      refine RXl.exact (.func (.func 16) #[] #[.pointer (some ⟨pa, 0, none⟩), .pointer (some ⟨pl, 0, none⟩)]) rfl rfl rfl rfl rfl (fun j τ w' hj hJ => by have c := KJ.clo hJ; simp [rho, upd, Spec.val, execOp, go_sem, c]) ?_
      refine RXl.callp 0 (.int .i64 x1) (16) (#[.int .i64 100, .pointer (some ⟨pa, 0, none⟩), .pointer (some ⟨pl, 0, none⟩)]) rfl rfl rfl rfl rfl (fun w' => by simp [rho, upd, Spec.val, execOp, go_sem, resolve, invoke, Deferred.ofValue]) (fun w' hJ =>  (nextC HL.out pc pa pl 1 100 (by decide) (by omega) w' hJ).mono fun _ _ h => ⟨h.1.trans (by rw [Hx1.out]), h.2⟩) ?_
      refine RXl.exact (.func (.func 16) #[] #[.pointer (some ⟨pa, 0, none⟩), .pointer (some ⟨pl, 0, none⟩)]) rfl rfl rfl rfl rfl (fun j τ w' hj hJ => by have c := KJ.clo hJ; simp [rho, upd, Spec.val, execOp, go_sem, c]) ?_
      refine RXl.callp 1 (.int .i64 x2) (16) (#[.int .i64 50, .pointer (some ⟨pa, 0, none⟩), .pointer (some ⟨pl, 0, none⟩)]) rfl rfl rfl rfl rfl (fun w' => by simp [rho, upd, Spec.val, execOp, go_sem, resolve, invoke, Deferred.ofValue]) (fun w' hJ =>  (nextC HL.out pc pa pl 2 50 (by decide) (by omega) w' hJ).mono fun _ _ h => ⟨h.1.trans (by rw [Hx2.out]), h.2⟩) ?_
      refine RXl.exact (.func (.func 16) #[] #[.pointer (some ⟨pa, 0, none⟩), .pointer (some ⟨pl, 0, none⟩)]) rfl rfl rfl rfl rfl (fun j τ w' hj hJ => by have c := KJ.clo hJ; simp [rho, upd, Spec.val, execOp, go_sem, c]) ?_
      refine RXl.callp 2 (.int .i64 x3) (16) (#[.int .i64 20, .pointer (some ⟨pa, 0, none⟩), .pointer (some ⟨pl, 0, none⟩)]) rfl rfl rfl rfl rfl (fun w' => by simp [rho, upd, Spec.val, execOp, go_sem, resolve, invoke, Deferred.ofValue]) (fun w' hJ =>  (nextC HL.out pc pa pl 3 20 (by decide) (by omega) w' hJ).mono fun _ _ h => ⟨h.1.trans (by rw [Hx3.out]), h.2⟩) ?_
      refine RXl.exact (.func (.func 16) #[] #[.pointer (some ⟨pa, 0, none⟩), .pointer (some ⟨pl, 0, none⟩)]) rfl rfl rfl rfl rfl (fun j τ w' hj hJ => by have c := KJ.clo hJ; simp [rho, upd, Spec.val, execOp, go_sem, c]) ?_
      refine RXl.callp 3 (.int .i64 x4) (16) (#[.int .i64 50, .pointer (some ⟨pa, 0, none⟩), .pointer (some ⟨pl, 0, none⟩)]) rfl rfl rfl rfl rfl (fun w' => by simp [rho, upd, Spec.val, execOp, go_sem, resolve, invoke, Deferred.ofValue]) (fun w' hJ =>  (nextC HL.out pc pa pl 4 50 (by decide) (by omega) w' hJ).mono fun _ _ h => ⟨h.1.trans (by rw [Hx4.out]), h.2⟩) ?_
      refine RXl.exact (.func (.func 16) #[] #[.pointer (some ⟨pa, 0, none⟩), .pointer (some ⟨pl, 0, none⟩)]) rfl rfl rfl rfl rfl (fun j τ w' hj hJ => by have c := KJ.clo hJ; simp [rho, upd, Spec.val, execOp, go_sem, c]) ?_
      refine RXl.callp 4 (.int .i64 x5) (16) (#[.int .i64 1000, .pointer (some ⟨pa, 0, none⟩), .pointer (some ⟨pl, 0, none⟩)]) rfl rfl rfl rfl rfl (fun w' => by simp [rho, upd, Spec.val, execOp, go_sem, resolve, invoke, Deferred.ofValue]) (fun w' hJ =>  (nextC HL.out pc pa pl 5 1000 (by decide) (by omega) w' hJ).mono fun _ _ h => ⟨h.1.trans (by rw [Hx5.out]), h.2⟩) ?_
      refine RXl.exact (.func (.func 16) #[] #[.pointer (some ⟨pa, 0, none⟩), .pointer (some ⟨pl, 0, none⟩)]) rfl rfl rfl rfl rfl (fun j τ w' hj hJ => by have c := KJ.clo hJ; simp [rho, upd, Spec.val, execOp, go_sem, c]) ?_
      refine RXl.callp 5 (.int .i64 x6) (16) (#[.int .i64 10, .pointer (some ⟨pa, 0, none⟩), .pointer (some ⟨pl, 0, none⟩)]) rfl rfl rfl rfl rfl (fun w' => by simp [rho, upd, Spec.val, execOp, go_sem, resolve, invoke, Deferred.ofValue]) (fun w' hJ =>  (nextC HL.out pc pa pl 6 10 (by decide) (by omega) w' hJ).mono fun _ _ h => ⟨h.1.trans (by rw [Hx6.out]), h.2⟩) ?_
      refine RXl.exact (.agg #[.int .i64 x1, .int .i64 x2, .int .i64 x3, .int .i64 x4, .int .i64 x5, .int .i64 x6]) rfl rfl rfl rfl rfl (fun j τ w' hj hJ => by simp [rho, upd, Spec.val, execOp, go_sem]) ?_
      refine RXl.exact (.pointer (some ⟨w1.heap.size, 7, none⟩)) rfl rfl rfl rfl rfl (fun j τ w' hj hJ => by simp [rho, upd, Spec.val, execOp, go_sem]) ?_
      refine RXl.effj 6 rfl rfl rfl rfl rfl rfl (fun w' hJ => KJ.stoT x1 x2 x3 x4 x5 x6 rfl rfl rfl rfl rfl hJ) ?_
      refine RXl.nilx _ (Agr.upd _ _ (Agr.upd _ _ (Agr.upd _ _ (Agr.upd _ _ (Agr.upd _ _ (Agr.upd _ _ (Agr.upd _ _ (Agr.upd _ _ (Agr.upd _ _ (Agr.upd _ _ (Agr.upd _ _ (Agr.upd _ _ (Agr.upd _ _ (Agr.upd _ _ (Agr.base _))))))))))))))) fun w8 hJ => ?_
      obtain ⟨_, hJ⟩ := hJ
      simp only [Act.put, List.setIfInBounds_toArray, List.set_cons_succ, List.set_cons_zero]
      have HJ := Lib.hid hJ
      clear hJ
      go_wp2_with fail
      go_meet
      exact ⟨{ Rc.zero with kind := 8, tab := ⟨x1, x2, x3, x4, x5, x6⟩ }, 7, 0, _, _, by omega, by omega, rfl, rfl, by rw [← Hx1.out, ← Hx2.out, ← Hx3.out, ← Hx4.out, ← Hx5.out, ← Hx6.out]; exact Hrl.out, HJ.out⟩
  case rest =>
  obtain ⟨r, a0, m, sv, lw, hm, ha, rfl, hrl0, hrec, hcut⟩ := hcut
  have HREC := Lib.hid hrec
  have H := Lib.hid (show NX B w0 pc pa pl a0 (.slice A l.length c) w1.heap.size { r with locs := lcs l a0 0 } sv lw (pts p2 (.cells #[.int .i64 0, str [], .int .i64 0, .int .i64 0, .slice none 0 0, .int .i64 0, .slice none 0 0, .int .i64 0, .int .i64 0, .int .i64 0, .int .i64 0, .int .i64 0, .int .i64 0] 27 (0, 0)) * R) wc from by
    have e : ({ r with locs := lcs l a0 0 } : RcM.Rc) = r := by
      obtain ⟨⟩ := r
      simp only at hrl0
      subst hrl0
      rfl
    rw [e]
    exact hcut)
  clear hcut hrec N1 Hrl hrl0 c0
  go_wp2_with fail
  go_loopw [9] (fun i wr => ∃ (n : Nat) (lw : Value), n ≤ m ∧ i = .int .i64 n ∧ NX B w0 pc pa pl (a0 + 3 * n) (.slice A l.length c) w1.heap.size { r with locs := lcs l a0 n } sv lw (pts p2 (.cells #[.int .i64 0, str [], .int .i64 0, .int .i64 0, .slice none 0 0, .int .i64 0, .slice none 0 0, .int .i64 0, .int .i64 0, .int .i64 0, .int .i64 0, .int .i64 0, .int .i64 0] 27 (0, 0)) * R) wr) (fun i _ => m - (intOf i).toNat)
  case atStart => exact ⟨0, lw, Nat.zero_le _, rfl, H.out⟩
  case round =>
    obtain ⟨n, lw, hn, rfl, h⟩ := hrel
    clear H
    by_cases hlt : n < m
    · have hltI : (n : Int) < (m : Int) := by omega
      have hLn : (lcs l a0 n).length ≤ 1000 := by rw [lcs_len]; omega
      have hsu := lcs_succ l a0 n
      have hlc := fun (R : HP) => loc_calls (B := B) (w0 := w0) (R := R) A c l HL.out pc pa pl (a0 + 3 * n) (by omega)
      generalize (⟨nx l (a0 + 3 * n) 24, nx l (a0 + 3 * n + 1) 64, nx l (a0 + 3 * n + 2) 1000 + 1⟩ : Lc) = y at hsu hlc
      obtain ⟨a6, c6, rfl, -⟩ := (NC.front h).right.right.right.right.right.rowSlice
      have H1 := Lib.hid h
      have HLC := Lib.hid (hlc (pts w1.heap.size (.cells (rcA { r with locs := lcs l a0 n } sv (.slice a6 { r with locs := lcs l a0 n }.locs.length c6)) 27 (0, 0)) * (row 3 1 sv r.sids.length (ivs r.sids) * (row 31 3 (.slice a6 { r with locs := lcs l a0 n }.locs.length c6) { r with locs := lcs l a0 n }.locs.length ({ r with locs := lcs l a0 n }.locs.flatMap lcC) * (pts p2 (.cells #[.int .i64 0, str [], .int .i64 0, .int .i64 0, .slice none 0 0, .int .i64 0, .slice none 0 0, .int .i64 0, .int .i64 0, .int .i64 0, .int .i64 0, .int .i64 0, .int .i64 0] 27 (0, 0)) * R)))))
      have Hsu := Lib.hid hsu
      clear hsu
      clear h hlc
      go_wp2_with fail
      refine wp_region_rv [134, 135, 136] (MJ B w0 pc pa pl (a0 + 3 * n) (.slice A l.length c) w1.heap.size { r with locs := lcs l a0 n } sv (.slice a6 { r with locs := lcs l a0 n }.locs.length c6) y (pts p2 (.cells #[.int .i64 0, str [], .int .i64 0, .int .i64 0, .slice none 0 0, .int .i64 0, .slice none 0 0, .int .i64 0, .int .i64 0, .int .i64 0, .int .i64 0, .int .i64 0, .int .i64 0] 27 (0, 0)) * R)) [3, 4, 5, 7] mixed (by kernel_rfl) (by kernel_rfl) rfl (fun _ => NX.keep H1.out (Add.drew _)) ?_
      refine RXl.exact (.pointer (some ⟨w1.heap.size, 6, none⟩)) rfl rfl rfl rfl rfl (fun j τ w' hj hJ => (by obtain ⟨vs, hv, hJ⟩ := hJ; exact (by simp [rho, upd, Spec.val, execOp, go_sem]))) ?_
      refine RXl.exactB 2 5 rfl (by kernel_rfl) (.slice a6 { r with locs := lcs l a0 n }.locs.length c6) rfl rfl rfl rfl rfl (fun j τ w' hj hJ => (by obtain ⟨vs, hv, hJ⟩ := hJ; exact (by obtain ⟨Z, z⟩ := MJ.rec (by omega) hJ; have c := z.cell 6; unfold rcA at c; simp at c; simp [rho, upd, Spec.val, execOp, go_sem, c]))) ?_
      refine RXl.exact (.func (.func 17) #[] #[.pointer (some ⟨pc, 0, none⟩)]) rfl rfl rfl rfl rfl (fun _ _ _ _ _ => rfl) ?_
      refine RXl.callVp 0 134 rfl rfl rfl (Nat.le_of_ble_eq_true rfl) rfl rfl rfl rfl (fun ρ vs w hv hJ hag => ⟨17, #[.pointer (some ⟨pc, 0, none⟩)], by simp [execOp, hag.ex 133 _ rfl rfl rfl, go_sem, resolve, invoke, Deferred.ofValue], (HLC.out w hJ).mono fun e w' h => ⟨_, h.1, by simp [updv], h.2⟩⟩) ?_
      refine RXl.effV 1 135 rfl rfl rfl (Nat.le_of_ble_eq_true rfl) rfl rfl rfl rfl (fun ρ vs w hv hJ hag => MJ.lit rfl (hv 0 134 (by decide) rfl) hJ) ?_
      refine RXl.effV 2 136 rfl rfl rfl (Nat.le_of_ble_eq_true rfl) rfl rfl rfl rfl (fun ρ vs w hv hJ hag => MJ.app rfl (hag.ex 132 _ rfl rfl rfl) (hv 1 135 (by decide) rfl) hLn hJ) ?_
      refine RXl.exact (.pointer (some ⟨w1.heap.size, 6, none⟩)) rfl rfl rfl rfl rfl (fun j τ w' hj hJ => (by obtain ⟨vs, hv, hJ⟩ := hJ; exact (by simp [rho, upd, Spec.val, execOp, go_sem]))) ?_
      refine RXl.effS 3 rfl rfl rfl rfl rfl rfl (fun ρ vs w hv hJ hag => MJ.sto rfl (hag.ex 137 _ rfl rfl rfl) (hv 2 136 (by decide) rfl) hJ) ?_
      refine RXl.nilV _ (AgrL.upd _ _ (AgrL.unk 136 _ rfl (AgrL.unk 135 _ rfl (AgrL.unk 134 _ rfl (AgrL.upd _ _ (AgrL.upd _ _ (AgrL.upd _ _ (AgrL.base _)))))))) (by decide) (by decide) fun vs w8 hJ => ?_
      simp only [puts, Act.put, List.setIfInBounds_toArray, List.set_cons_succ, List.set_cons_zero]
      obtain ⟨lw', h8⟩ := hJ
      have HF := Lib.hid (show NX B w0 pc pa pl (a0 + 3 * (n + 1)) (.slice A l.length c) w1.heap.size { r with locs := lcs l a0 (n + 1) } sv lw' (pts p2 (.cells #[.int .i64 0, str [], .int .i64 0, .int .i64 0, .slice none 0 0, .int .i64 0, .slice none 0 0, .int .i64 0, .int .i64 0, .int .i64 0, .int .i64 0, .int .i64 0, .int .i64 0] 27 (0, 0)) * R) w8 from by
        rw [Hsu.out]
        refine St.eq ?_ h8
        simp only [List.length_append, List.length_singleton, List.flatMap_append, List.flatMap_cons, List.flatMap_nil, List.append_nil]
        rfl)
      clear h8 H1 HLC Hsu
      go_wp2_with fail
      go_roundw
      case rel => exact ⟨n + 1, lw', by omega, by go_num, HF.out⟩
      case measure => simp [intOf]; omega
    · obtain rfl : n = m := by omega
      have hnl : ¬ (n : Int) < (n : Int) := by omega
      have hnr : NX B w0 pc pa pl (a0 + 3 * n) (.slice A l.length c) w1.heap.size (recL l) sv lw (pts p2 (.cells #[.int .i64 0, str [], .int .i64 0, .int .i64 0, .slice none 0 0, .int .i64 0, .slice none 0 0, .int .i64 0, .int .i64 0, .int .i64 0, .int .i64 0, .int .i64 0, .int .i64 0] 27 (0, 0)) * R) wr := by rw [HREC.out]; exact h
      clear hlt hn h
      generalize hq : recL l = q at *
      have Hq := Lib.hid hq
      clear hq
      have s1 := NC.front hnr
      obtain ⟨a7, c7, rfl, -⟩ := s1.right.right.right.right.rowSlice
      obtain ⟨a8, c8, rfl, -⟩ := s1.right.right.right.right.right.rowSlice
      have SP := Lib.hid s1
      have S2 := Lib.hid (s1.eq (Q := pts p2 (.cells #[.int .i64 0, str [], .int .i64 0, .int .i64 0, .slice none 0 0, .int .i64 0, .slice none 0 0, .int .i64 0, .int .i64 0, .int .i64 0, .int .i64 0, .int .i64 0, .int .i64 0] 27 (0, 0)) * ((pts w1.heap.size (.cells (rcA q (.slice a7 q.sids.length c7) (.slice a8 q.locs.length c8)) 27 (0, 0)) * (pts pa (.cells #[.int .i64 ((a0 + 3 * n : Nat) : Int)] 3 (0, 0)) * (pts pl (.cells #[.slice A l.length c] 22 (0, 0)) * pts pc (.cells #[cv pa pl] 46 (0, 0))))) * (row 3 1 (.slice a7 q.sids.length c7) q.sids.length (ivs q.sids) * (row 31 3 (.slice a8 q.locs.length c8) q.locs.length (q.locs.flatMap lcC) * R)))) (by ac_rfl))
      have ho : (rcA q (.slice a7 q.sids.length c7) (.slice a8 q.locs.length c8)).all (·.oneCell') = true := by
        unfold rcA
        simp [Value.oneCell']
      have HO := Lib.hid ho
      clear hnr s1 ho
      go_upto_region 31 with fail
      refine wp_region_lit ?_
      refine wpList_load_row rfl 27 (.tmp 6) rfl w1.heap.size (by kernel_rfl) 27 (rcA q (.slice a7 q.sids.length c7) (.slice a8 q.locs.length c8)) (0, 0) _ SP.out.block Try.underlying27 rfl (by kernel_rfl) ?_
      refine wpList_store_row rfl 27 (.tmp 2) (.tmp 138) rfl p2 (rcA q (.slice a7 q.sids.length c7) (.slice a8 q.locs.length c8)) (by kernel_rfl) (by kernel_rfl) 27 _ S2.out.block (by kernel_rfl) (by kernel_rfl) HO.out (wpList_nil ?_)
      have SF := Lib.hid (S2.out.setRow (rcA q (.slice a7 q.sids.length c7) (.slice a8 q.locs.length c8)))
      go_wp2_with fail
      exact bodyPost_ret (v := .agg (rcA q (.slice a7 q.sids.length c7) (.slice a8 q.locs.length c8))) (results_cell_row rfl _ _ p2 _ (rcA q (.slice a7 q.sids.length c7) (.slice a8 q.locs.length c8)) (0, 0) _ (by kernel_rfl) SF.out.block Try.underlying27 rfl (by kernel_rfl)) (by kernel_rfl) (by rw [Hq.out]; exact ⟨_, _, rfl, SF.out.right.right⟩)
end
end Go.Proofs.Ytnfkcmcchkcflaa.RcL
