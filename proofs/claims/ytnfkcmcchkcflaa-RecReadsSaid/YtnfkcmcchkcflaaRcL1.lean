/- The laws of records, walked: the numbers that records are made of. No condition. -/
import Derived.Test.YtnfkcmcchkcflaaRcW7
import Derived.Test.YtnfkcmcchkcflaaClo
set_option linter.unusedSimpArgs false
set_option linter.unusedVariables false
namespace Go.Proofs.Ytnfkcmcchkcflaa.RcL
open Go Go.RowKit Go.Proofs.Ytnfkcmcchkcflaa Go.Proofs.Ytnfkcmcchkcflaa.Sp Go.Proofs.Ytnfkcmcchkcflaa.Reg Go.Proofs.Ytnfkcmcchkcflaa.RcM Go.Proofs.Ytnfkcmcchkcflaa.SlW Go.Proofs.Ytnfkcmcchkcflaa.Rd Go.Proofs.Ytnfkcmcchkcflaa.RcW
set_option maxRecDepth 100000 in
set_option maxHeartbeats 4000000 in
theorem key_calls (n : Int) (h0 : 0 ≤ n) (h1 : n < 12) (w : World) : Calls Try.prog 18 #[.int .i64 n] w (RetA w (str (keyAt n))) := by
  obtain ⟨k, rfl⟩ : ∃ k : Nat, n = k := ⟨n.toNat, by omega⟩
  have hk : k < 12 := by omega
  clear h0 h1
  obtain rfl | rfl | rfl | rfl | rfl | rfl | rfl | rfl | rfl | rfl | rfl | rfl : k = 0 ∨ k = 1 ∨ k = 2 ∨ k = 3 ∨ k = 4 ∨ k = 5 ∨ k = 6 ∨ k = 7 ∨ k = 8 ∨ k = 9 ∨ k = 10 ∨ k = 11 := by omega
  all_goals
    go_enter Try.func18, Try.ntmps18
    go_wp2_with fail
    go_ret
    exact ⟨rfl, Add.alloc _ _⟩
section
variable {B : Nat} {w0 : World} {R : HP}
/-- Where the numbers come from: how many are gone, the numbers. -/
def NS (B : Nat) (w0 : World) (pa pl k : Nat) (lv : Value) (R : HP) (w : World) : Prop := St B w0 w (pts pa (.cells #[.int .i64 (k : Int)] 3 (0, 0)) * (pts pl (.cells #[lv] 22 (0, 0)) * R))
set_option maxRecDepth 100000 in
set_option maxHeartbeats 4000000 in
theorem next_calls (A : Option Addr) (c : Nat) (l : List Int) (hl : ∀ w, Below B w0 w → IS w (.slice A l.length c) l) (pa pl k : Nat) (n : Int) (hn : 0 < n) (hk : k ≤ 100000) (w : World) (s : NS B w0 pa pl k (.slice A l.length c) R w) :
    Calls Try.prog 16 #[.int .i64 n, .pointer (some ⟨pa, 0, none⟩), .pointer (some ⟨pl, 0, none⟩)] w fun e w' => e = .returned (.int .i64 (nx l k n)) ∧ NS B w0 pa pl (k + 1) (.slice A l.length c) R w' ∧ w'.heap.size = w.heap.size := by
  have hi0 := hl w s.below
  obtain ⟨_, _, e, hq1, hq2, -, -⟩ := id hi0
  cases e
  unfold maxLen at hq2
  have c0 := St.cell s 0
  have f0 := St.free s 0
  simp at c0
  have s1 : NS B w0 pa pl (k + 1) (.slice A l.length c) R (w.setCell ⟨pa, 0, none⟩ (.int .i64 ((k : Int) + 1))) := St.set s 0 (.int .i64 ((k : Int) + 1))
  have hi := hl _ (St.below s1)
  have c0' := St.cell s1 0
  have c1' := (St.eq (sep_left_comm _ _ _) s1).cell 0
  simp at c0' c1'
  have S1 := Lib.hid s1
  have hnz : n ≠ 0 := by omega
  by_cases h : l.length ≤ k
  · have hg : (l.length : Int) < (k : Int) + 1 := by omega
    have HV := Lib.hid (show nx l k n = (((k : Int) + 1) * 7) % n by
      unfold nx; rw [if_pos h])
    clear hi hi0 hl s s1 h
    go_enter Try.func16, Try.ntmps16
    go_wp2_with fail
    go_ret
    rw [HV.out]
    exact ⟨rfl, S1.out, by simp⟩
  · have hg : ¬ (l.length : Int) < (k : Int) + 1 := by omega
    have hkl : k < l.length := by omega
    obtain ⟨b, off, rfl⟩ := hi.head (by omega)
    have hc := hi.cellAt k hkl
    have ha := and_m24 l[k]
    have HV := Lib.hid (show nx l k n = (l[k] % 16777216) % n by
      unfold nx
      rw [if_neg h, List.getD_eq_getElem?_getD, List.getElem?_eq_getElem hkl]
      rfl)
    generalize l[k] = y at *
    clear hi hi0 hl s s1 h
    go_enter Try.func16, Try.ntmps16
    go_wp2_with fail
    go_ret
    rw [HV.out]
    exact ⟨rfl, S1.out, by simp⟩
/-- The closure that tells the next number. -/
def cv (pa pl : Nat) : Value := .func (.func 16) #[] #[.pointer (some ⟨pa, 0, none⟩), .pointer (some ⟨pl, 0, none⟩)]
/-- The same, with the closure's variable. -/
def NC (B : Nat) (w0 : World) (pc pa pl k : Nat) (lv : Value) (R : HP) (w : World) : Prop := NS B w0 pa pl k lv (pts pc (.cells #[cv pa pl] 46 (0, 0)) * R) w
theorem NC.cell {pc pa pl k : Nat} {lv : Value} {w : World} (h : NC B w0 pc pa pl k lv R w) : w.cell? ⟨pc, 0, none⟩ = some (cv pa pl) :=
  (St.eq (Q := pts pc (.cells #[cv pa pl] 46 (0, 0)) * (pts pa (.cells #[.int .i64 (k : Int)] 3 (0, 0)) * (pts pl (.cells #[lv] 22 (0, 0)) * R))) (by ac_rfl) h).cell 0
theorem NC.front {pc pa pl k p : Nat} {o : Obj} {lv : Value} {w : World} (h : NC B w0 pc pa pl k lv (pts p o * R) w) : St B w0 w (pts p o * (pts pa (.cells #[.int .i64 (k : Int)] 3 (0, 0)) * (pts pl (.cells #[lv] 22 (0, 0)) * (pts pc (.cells #[cv pa pl] 46 (0, 0)) * R)))) :=
  St.eq (by ac_rfl) h
theorem NC.back {pc pa pl k p : Nat} {o : Obj} {lv : Value} {w : World} (h : St B w0 w (pts p o * (pts pa (.cells #[.int .i64 (k : Int)] 3 (0, 0)) * (pts pl (.cells #[lv] 22 (0, 0)) * (pts pc (.cells #[cv pa pl] 46 (0, 0)) * R))))) : NC B w0 pc pa pl k lv (pts p o * R) w :=
  St.eq (Q := pts pa (.cells #[.int .i64 (k : Int)] 3 (0, 0)) * (pts pl (.cells #[lv] 22 (0, 0)) * (pts pc (.cells #[cv pa pl] 46 (0, 0)) * (pts p o * R)))) (by ac_rfl) h
theorem nextC {A : Option Addr} {c : Nat} {l : List Int} (hl : ∀ w, Below B w0 w → IS w (.slice A l.length c) l) (pc pa pl k : Nat) (n : Int) (hn : 0 < n) (hk : k ≤ 100000) (w : World) (s : NC B w0 pc pa pl k (.slice A l.length c) R w) :
    Calls Try.prog 16 #[.int .i64 n, .pointer (some ⟨pa, 0, none⟩), .pointer (some ⟨pl, 0, none⟩)] w fun e w' => e = .returned (.int .i64 (nx l k n)) ∧ NC B w0 pc pa pl (k + 1) (.slice A l.length c) R w' :=
  (next_calls A c l hl pa pl k n hn hk w s).mono fun _ _ h => ⟨h.1, h.2.1⟩
theorem nextZ {A : Option Addr} {c : Nat} {l : List Int} (hl : ∀ w, Below B w0 w → IS w (.slice A l.length c) l) (pc pa pl k : Nat) (n : Int) (hn : 0 < n) (hk : k ≤ 100000) (w : World) (s : NC B w0 pc pa pl k (.slice A l.length c) R w) :
    Calls Try.prog 16 #[.int .i64 n, .pointer (some ⟨pa, 0, none⟩), .pointer (some ⟨pl, 0, none⟩)] w fun e w' => e = .returned (.int .i64 (nx l k n)) ∧ NC B w0 pc pa pl (k + 1) (.slice A l.length c) R w' ∧ w'.heap.size = w.heap.size :=
  next_calls A c l hl pa pl k n hn hk w s
theorem exec_store_row {P : Program} {ρ : Operand → Value} {o : Oper} {w : World} {t t' : TypeId} {x y : Operand} {g : Nat} {old cells : Array Value} (hop : o.op = .store t x y) (hx : ρ x = .pointer (some ⟨g, 0, none⟩)) (hy : ρ y = .agg cells)
    (hg : w.heap[g]? = some (.cells old t' (0, 0))) (hi : (P.info? t).map (·.size) = some cells.size) (hold : old.size = cells.size) (h1 : cells.all (·.oneCell') = true) : (execOp ρ o).run P w = .ok .skip (w.setRow g cells) := by
  unfold execOp
  simp only [hop, hx, hy, Instr.storeAt, Instr.sureAddr, Sem.run_bind, Sem.run_pure, Result.andThen_ok, run_storeVar_row w g t' t old cells hg hi hold h1]
theorem wrapI {n : Int} (h0 : -9223372036854775808 ≤ n) (h1 : n < 9223372036854775808) : IntKind.i64.wrap n = n := by rw [IntKind.wrap_i64]; omega
/-- Where a Loc's making stands. -/
def OJ (B : Nat) (w0 : World) (pr pc pa pl k : Nat) (lv : Value) (x y z : Int) (R : HP) (j : Nat) (w : World) : Prop := match j with
  | 0 => NC B w0 pc pa pl k lv (pts pr (.cells #[.int .i64 0, .int .i64 0, .int .i64 0] 31 (0, 0)) * R) w
  | 1 => NC B w0 pc pa pl (k + 1) lv (pts pr (.cells #[.int .i64 0, .int .i64 0, .int .i64 0] 31 (0, 0)) * R) w
  | 2 => NC B w0 pc pa pl (k + 2) lv (pts pr (.cells #[.int .i64 0, .int .i64 0, .int .i64 0] 31 (0, 0)) * R) w
  | 3 => NC B w0 pc pa pl (k + 3) lv (pts pr (.cells #[.int .i64 0, .int .i64 0, .int .i64 0] 31 (0, 0)) * R) w
  | _ => NC B w0 pc pa pl (k + 3) lv (pts pr (.cells #[.int .i64 x, .int .i64 y, .int .i64 z] 31 (0, 0)) * R) w
theorem OJ.clo {pr pc pa pl k : Nat} {lv : Value} {x y z : Int} : ∀ {j : Nat} {w : World}, OJ B w0 pr pc pa pl k lv x y z R j w → w.cell? ⟨pc, 0, none⟩ = some (cv pa pl)
  | 0, _, h => NC.cell h
  | 1, _, h => NC.cell h
  | 2, _, h => NC.cell h
  | 3, _, h => NC.cell h
  | _ + 4, _, h => NC.cell h
set_option maxRecDepth 100000 in
set_option maxHeartbeats 4000000 in
theorem loc_calls (A : Option Addr) (c : Nat) (l : List Int) (hl : ∀ w, Below B w0 w → IS w (.slice A l.length c) l) (pc pa pl k : Nat) (hk : k ≤ 1000) (w : World) (s : NC B w0 pc pa pl k (.slice A l.length c) R w) :
    Calls Try.prog 17 #[.pointer (some ⟨pc, 0, none⟩)] w fun e w' => e = .returned (lcV ⟨nx l k 24, nx l (k + 1) 64, nx l (k + 2) 1000 + 1⟩) ∧ NC B w0 pc pa pl (k + 3) (.slice A l.length c) R w' := by
  have s1 : NC B w0 pc pa pl k (.slice A l.length c) (pts w.heap.size (.cells #[.int .i64 0, .int .i64 0, .int .i64 0] 31 (0, 0)) * R) (w.alloc (.cells #[.int .i64 0, .int .i64 0, .int .i64 0] 31)) :=
    NC.back (St.eq (by ac_rfl) (St.alloc s (.cells #[.int .i64 0, .int .i64 0, .int .i64 0] 31 (0, 0))))
  have S1 := Lib.hid s1
  have HL := Lib.hid hl
  have hz := nx_lo l (k + 2) (n := 1000) (by decide)
  have hz2 := nx_hi l (k + 2) (n := 1000) (by decide)
  clear s s1 hl
  unfold lcV
  generalize hx : nx l k 24 = x
  generalize hy : nx l (k + 1) 64 = y
  generalize hv : nx l (k + 2) 1000 = z at *
  have HX := Lib.hid hx
  have HY := Lib.hid hy
  have HV := Lib.hid hv
  clear hx hy hv
  go_enter Try.func17, Try.ntmps17
  go_wp2_with fail
  refine wp_region_rx (OJ B w0 w.heap.size pc pa pl k (.slice A l.length c) x y (z + 1) R) [1, 3, 5, 8] mixed (by kernel_rfl) (by kernel_rfl) (St.drew S1.out) ?_
  refine RXl.exact (.func (.func 16) #[] #[.pointer (some ⟨pa, 0, none⟩), .pointer (some ⟨pl, 0, none⟩)]) rfl rfl rfl rfl rfl (fun j τ w' hj hJ => by have c := OJ.clo hJ; simp [rho, upd, Spec.val, execOp, go_sem, c]; rfl) ?_
  refine RXl.callp 0 (.int .i64 x) (16) (#[.int .i64 24, .pointer (some ⟨pa, 0, none⟩), .pointer (some ⟨pl, 0, none⟩)]) rfl rfl rfl rfl rfl (fun w' => by simp [rho, upd, Spec.val, execOp, go_sem, resolve, invoke, Deferred.ofValue]) (fun w' hJ =>  (nextC HL.out pc pa pl k 24 (by decide) (by omega) w' hJ).mono fun _ _ h => ⟨h.1.trans (by rw [HX.out]), h.2⟩) ?_
  refine RXl.exact (.func (.func 16) #[] #[.pointer (some ⟨pa, 0, none⟩), .pointer (some ⟨pl, 0, none⟩)]) rfl rfl rfl rfl rfl (fun j τ w' hj hJ => by have c := OJ.clo hJ; simp [rho, upd, Spec.val, execOp, go_sem, c]; rfl) ?_
  refine RXl.callp 1 (.int .i64 y) (16) (#[.int .i64 64, .pointer (some ⟨pa, 0, none⟩), .pointer (some ⟨pl, 0, none⟩)]) rfl rfl rfl rfl rfl (fun w' => by simp [rho, upd, Spec.val, execOp, go_sem, resolve, invoke, Deferred.ofValue]) (fun w' hJ =>  (nextC HL.out pc pa pl (k + 1) 64 (by decide) (by omega) w' hJ).mono fun _ _ h => ⟨h.1.trans (by rw [HY.out]), h.2⟩) ?_
  refine RXl.exact (.func (.func 16) #[] #[.pointer (some ⟨pa, 0, none⟩), .pointer (some ⟨pl, 0, none⟩)]) rfl rfl rfl rfl rfl (fun j τ w' hj hJ => by have c := OJ.clo hJ; simp [rho, upd, Spec.val, execOp, go_sem, c]; rfl) ?_
  refine RXl.callp 2 (.int .i64 z) (16) (#[.int .i64 1000, .pointer (some ⟨pa, 0, none⟩), .pointer (some ⟨pl, 0, none⟩)]) rfl rfl rfl rfl rfl (fun w' => by simp [rho, upd, Spec.val, execOp, go_sem, resolve, invoke, Deferred.ofValue]) (fun w' hJ =>  (nextC HL.out pc pa pl (k + 2) 1000 (by decide) (by omega) w' hJ).mono fun _ _ h => ⟨h.1.trans (by rw [HV.out]), h.2⟩) ?_
  refine RXl.exact (.int .i64 (z + 1)) rfl rfl rfl rfl rfl (fun j τ w' hj hJ => by have e := wrapI (n := z + 1) (by omega) (by omega); simp [rho, upd, Spec.val, execOp, go_sem, e]) ?_
  refine RXl.exact (.agg #[.int .i64 x, .int .i64 y, .int .i64 (z + 1)]) rfl rfl rfl rfl rfl (fun j τ w' hj hJ => by simp [rho, upd, Spec.val, execOp, go_sem]) ?_
  refine RXl.effj 3 rfl rfl rfl rfl rfl rfl (fun w' hJ => ⟨_, exec_store_row rfl rfl rfl (St.block (NC.front hJ)) (by kernel_rfl) rfl (by simp [Value.oneCell']), NC.back (St.setRow (NC.front hJ) #[.int .i64 x, .int .i64 y, .int .i64 (z + 1)])⟩) ?_
  refine RXl.nilx _ (Agr.upd _ _ (Agr.upd _ _ (Agr.upd _ _ (Agr.upd _ _ (Agr.upd _ _ (Agr.upd _ _ (Agr.upd _ _ (Agr.upd _ _ (Agr.base _))))))))) fun w3 hJ => ?_
  obtain ⟨_, hJ⟩ := hJ
  simp only [Act.put, List.setIfInBounds_toArray, List.set_cons_succ, List.set_cons_zero]
  have HF := Lib.hid (show NC B w0 pc pa pl (k + 3) (.slice A l.length c) (pts w.heap.size (.cells #[.int .i64 x, .int .i64 y, .int .i64 (z + 1)] 31 (0, 0)) * R) w3 from hJ)
  clear hJ S1
  go_wp2_with fail
  exact bodyPost_ret (v := .agg #[.int .i64 x, .int .i64 y, .int .i64 (z + 1)]) (results_cell_row rfl _ _ w.heap.size _ #[.int .i64 x, .int .i64 y, .int .i64 (z + 1)] (0, 0) _ rfl (St.block (NC.front HF.out)) Try.underlying31 rfl (by kernel_rfl)) rfl ⟨rfl, (St.right (NC.front HF.out))⟩
end
end Go.Proofs.Ytnfkcmcchkcflaa.RcL
