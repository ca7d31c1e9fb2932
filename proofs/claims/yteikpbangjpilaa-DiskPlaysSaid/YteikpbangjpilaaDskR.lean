/- The document's disk, walked. No condition. -/
import Derived.Test.YteikpbangjpilaaDskP
import Derived.Test.YteikpbangjpilaaDskA
import Derived.Test.YteikpbangjpilaaTapR
import Derived.Test.YteikpbangjpilaaRws
import Derived.Test.YteikpbangjpilaaRey
set_option linter.unusedSimpArgs false
set_option linter.unusedVariables false
namespace Go.Proofs.Yteikpbangjpilaa.DskR
open Go Go.RowKit Go.Proofs.Yteikpbangjpilaa Go.Proofs.Yteikpbangjpilaa.Sp Go.Proofs.Yteikpbangjpilaa.Reg Go.Proofs.Yteikpbangjpilaa.SlW Go.Proofs.Yteikpbangjpilaa.Fus Go.Proofs.Yteikpbangjpilaa.TapR Go.Proofs.Yteikpbangjpilaa.DskN Go.Proofs.Yteikpbangjpilaa.DskW
def wtC (x : Wt) : List Value := [.int .i64 (x.slot : Int), str x.was, str x.now]
/-- The document's disk, written out. -/
def rdkO (p : Nat) (fv sv wv : Value) (M : Rk) : HP := pts p (.cells #[sv, .bool M.live, wv, fv] 75 (0, 0)) * (row 9 1 sv M.slots.length (M.slots.map str) * row 95 3 wv M.wait.length (M.wait.flatMap wtC))
def rdk (p : Nat) (fv : Value) (M : Rk) : HP := exi fun sv => exi fun wv => pur M.ok * rdkO p fv sv wv M
section
variable {B : Nat} {w0 w : World} {R : HP} {p : Nat} {fv : Value} {M : Rk}
theorem rdk_open (s : St B w0 w (rdk p fv M * R)) : ∃ a1 c1 a2 c2, M.ok ∧ M.slots.length ≤ c1 ∧ c1 ≤ maxLen ∧ M.wait.length ≤ c2 ∧ c2 ≤ maxLen ∧ St B w0 w (rdkO p fv (.slice a1 M.slots.length c1) (.slice a2 M.wait.length c2) M * R) := by
  unfold rdk at s
  rw [St.ex] at s; obtain ⟨sv, s⟩ := s
  rw [St.ex] at s; obtain ⟨wv, s⟩ := s
  rw [sep_assoc, St.pu] at s
  obtain ⟨hok, s⟩ := s
  have s1 : St B w0 w (row 9 1 sv M.slots.length (M.slots.map str) * (pts p (.cells #[sv, .bool M.live, wv, fv] 75 (0, 0)) * (row 95 3 wv M.wait.length (M.wait.flatMap wtC) * R))) := s.eq (by unfold rdkO; ac_rfl)
  have s2 : St B w0 w (row 95 3 wv M.wait.length (M.wait.flatMap wtC) * (pts p (.cells #[sv, .bool M.live, wv, fv] 75 (0, 0)) * (row 9 1 sv M.slots.length (M.slots.map str) * R))) := s.eq (by unfold rdkO; ac_rfl)
  obtain ⟨a1, c1, rfl, h1, h2, -⟩ := s1.rowSlice
  obtain ⟨a2, c2, rfl, h3, h4, -⟩ := s2.rowSlice
  exact ⟨a1, c1, a2, c2, hok, h1, h2, h3, h4, s⟩
theorem rdk_mk {sv wv : Value} (h : M.ok) (s : St B w0 w (rdkO p fv sv wv M * R)) : St B w0 w (rdk p fv M * R) := by
  unfold rdk
  rw [St.ex]; refine ⟨sv, ?_⟩
  rw [St.ex]; refine ⟨wv, ?_⟩
  rw [sep_assoc, St.pu]
  exact ⟨h, s⟩
section
variable {sv wv : Value}
theorem rdkO_d (s : St B w0 w (rdkO p fv sv wv M * R)) : St B w0 w (pts p (.cells #[sv, .bool M.live, wv, fv] 75 (0, 0)) * ((row 9 1 sv M.slots.length (M.slots.map str) * row 95 3 wv M.wait.length (M.wait.flatMap wtC)) * R)) := s.eq (by unfold rdkO; ac_rfl)
theorem rdkO_s (s : St B w0 w (rdkO p fv sv wv M * R)) : St B w0 w (row 9 1 sv M.slots.length (M.slots.map str) * (pts p (.cells #[sv, .bool M.live, wv, fv] 75 (0, 0)) * (row 95 3 wv M.wait.length (M.wait.flatMap wtC) * R))) := s.eq (by unfold rdkO; ac_rfl)
theorem rdkO_w (s : St B w0 w (rdkO p fv sv wv M * R)) : St B w0 w (row 95 3 wv M.wait.length (M.wait.flatMap wtC) * (pts p (.cells #[sv, .bool M.live, wv, fv] 75 (0, 0)) * (row 9 1 sv M.slots.length (M.slots.map str) * R))) := s.eq (by unfold rdkO; ac_rfl)
end
/-- A cell of an owned row is set. -/
theorem row_set {e : TypeId} {size g n c j : Nat} {xs : List Value} (s : St B w0 w (row e size (.slice (some ⟨g, 0, none⟩) n c) n xs * R)) (hj : j < n * size) (v : Value) :
    w.frozen? ⟨g, j, none⟩ = false ∧ St B w0 (w.setCell ⟨g, j, none⟩ v) (row e size (.slice (some ⟨g, 0, none⟩) n c) n (xs.set j v) * R) := by
  obtain ⟨hl, h⟩ := s.rowOpen
  rcases h with ⟨hv, _⟩ | ⟨g', cap, cur, hv, h1, h2, h3, h4, t⟩
  · cases hv
  · cases hv
    refine ⟨t.free j, (t.set j v).rowMk h1 h2 (by simpa using h3) ?_⟩
    rw [Array.toList_setIfInBounds, List.take_set, h4]
theorem wt_at (l : List Wt) : ∀ (k : Nat) (h : k < l.length) (j : Nat), j < 3 → (l.flatMap wtC)[k * 3 + j]? = (wtC l[k])[j]? := by
  induction l with
  | nil => intro k h; simp at h
  | cons a l ih =>
    intro k h j hj
    have e : (a :: l).flatMap wtC = wtC a ++ l.flatMap wtC := by simp
    rw [e]
    cases k with
    | zero => rw [List.getElem?_append_left (by simp [wtC]; omega)]; simp
    | succ k =>
      rw [List.getElem?_append_right (by simp [wtC]; omega)]
      have := ih k (by simpa using h) j hj
      simp only [List.getElem_cons_succ]
      rw [← this]
      congr 1
      simp [wtC]; omega
set_option maxHeartbeats 1000000 in
theorem rslot_calls (i : Int) (w : World) (s : St B w0 w (rdk p fv M * R)) : Calls Try.prog 62 #[.pointer (some ⟨p, 0, none⟩), .int .i64 i] w (RetS B w0 (rdk p fv M * R) (.bool (decide (0 ≤ i ∧ i < M.slots.length)))) := by
  obtain ⟨a1, c1, a2, c2, hok, h1, h2, h3, h4, s1⟩ := rdk_open s
  have c0 := (rdkO_d s1).cell 0
  simp at c0
  have S := Lib.hid s
  clear s s1
  by_cases g1 : 0 ≤ i
  · by_cases g2 : i < (M.slots.length : Int)
    · have e : decide (0 ≤ i ∧ i < (M.slots.length : Int)) = true := decide_eq_true ⟨g1, g2⟩
      rw [e]
      clear e
      go_enter Try.func62, Try.ntmps62
      go_wp2_with fail
      go_ret
      exact ⟨rfl, S.out⟩
    · have e : decide (0 ≤ i ∧ i < (M.slots.length : Int)) = false := decide_eq_false (fun h => g2 h.2)
      rw [e]
      clear e
      go_enter Try.func62, Try.ntmps62
      go_wp2_with fail
      go_ret
      exact ⟨rfl, S.out⟩
  · have e : decide (0 ≤ i ∧ i < (M.slots.length : Int)) = false := decide_eq_false (fun h => g1 h.1)
    rw [e]
    clear e
    go_enter Try.func62, Try.ntmps62
    go_wp2_with fail
    go_ret
    exact ⟨rfl, S.out⟩
set_option maxRecDepth 100000 in
set_option maxHeartbeats 1000000 in
theorem rread_calls (i : Int) (w : World) (s : St B w0 w (rdk p fv M * R)) : Calls Try.prog 51 #[.pointer (some ⟨p, 0, none⟩), .int .i64 i] w (RetS B w0 (rdk p fv M * R) (.tuple #[str (rkRead M i), .int .i64 (rkErr M i)])) := by
  have Q := Lib.hid (rslot_calls i w s)
  have S := Lib.hid s
  clear s
  by_cases hc : 0 ≤ i ∧ i < (M.slots.length : Int)
  · rw [decide_eq_true hc] at Q
    cases hlv : M.live
    · have e1 : rkRead M i = [] := by unfold rkRead; rw [if_neg (by simp [hlv])]
      have e2 : rkErr M i = 5 := by unfold rkErr; rw [if_pos hc, if_pos hlv]
      rw [e1, e2]
      have Hl := Lib.hid hlv
      clear e1 e2 hlv
      go_enter Try.func51, Try.ntmps51
      go_wp2_with fail
      refine Q.out.mono ?_
      rintro e w1 ⟨rfl, s1⟩
      obtain ⟨a1, c1, a2, c2, hok, h1, h2, h3, h4, s2⟩ := rdk_open s1
      have d1 := (rdkO_d s2).cell 1
      rw [Hl.out] at d1
      simp at d1
      have S1 := Lib.hid s1
      clear s1 s2 Q S
      go_wp2_with fail
      go_ret2
      exact ⟨rfl, S1.out⟩
    · have e1 : rkRead M i = M.slots.getD i.toNat [] := by unfold rkRead; rw [if_pos ⟨hc, hlv⟩]
      have e2 : rkErr M i = 0 := by unfold rkErr; rw [if_pos hc, if_neg (by simp [hlv])]
      rw [e1, e2]
      have Hl := Lib.hid hlv
      clear e1 e2 hlv
      obtain ⟨k, rfl⟩ : ∃ k : Nat, i = (k : Int) := ⟨i.toNat, by omega⟩
      have hk : k < M.slots.length := by omega
      have hkI : (k : Int) < (M.slots.length : Int) := by omega
      rw [Int.toNat_natCast]
      have e3 : M.slots.getD k [] = M.slots[k] := by simp [List.getD_eq_getElem?_getD, hk]
      rw [e3]
      have hx : (M.slots.map str)[k]? = some (str M.slots[k]) := by rw [List.getElem?_map, List.getElem?_eq_getElem hk]; rfl
      clear e3
      generalize M.slots[k] = y at *
      have HX := Lib.hid hx
      clear hx
      go_enter Try.func51, Try.ntmps51
      go_wp2_with fail
      refine Q.out.mono ?_
      rintro e w1 ⟨rfl, s1⟩
      obtain ⟨a1, c1, a2, c2, hok, h1, h2, h3, h4, s2⟩ := rdk_open s1
      obtain ⟨g, c, hv, -, -, -, hcell⟩ := (rdkO_s s2).rowCells (by omega)
      cases hv
      have d0 := (rdkO_d s2).cell 0
      have d1 := (rdkO_d s2).cell 1
      rw [Hl.out] at d1
      simp at d0 d1
      have x := (hcell k (by omega)).trans HX.out
      have S1 := Lib.hid s1
      clear s1 s2 Q S hcell
      go_wp2_with fail
      go_ret2
      exact ⟨rfl, S1.out⟩
  · rw [decide_eq_false hc] at Q
    have e1 : rkRead M i = [] := by unfold rkRead; rw [if_neg (fun h => hc h.1)]
    have e2 : rkErr M i = 1 := by unfold rkErr; rw [if_neg hc]
    rw [e1, e2]
    clear e1 e2 hc
    go_enter Try.func51, Try.ntmps51
    go_wp2_with fail
    refine Q.out.mono ?_
    rintro e w1 ⟨rfl, s1⟩
    have S1 := Lib.hid s1
    clear s1 Q S
    go_wp2_with fail
    go_ret2
    exact ⟨rfl, S1.out⟩
set_option maxRecDepth 100000 in
set_option maxHeartbeats 1000000 in
theorem rdsync_calls (F : Fu) (fb : Nat) (w : World) (s : St B w0 w (rdk p (.pointer (some ⟨fb, 0, none⟩)) M * (rfz fb F * R))) :
    Calls Try.prog 52 #[.pointer (some ⟨p, 0, none⟩)] w (RetS B w0 (rdk p (.pointer (some ⟨fb, 0, none⟩)) (rkSync F M).2 * (rfz fb F * R)) (.int .i64 (rkSync F M).1)) := by
  obtain ⟨a1, c1, a2, c2, hok, h1, h2, h3, h4, s1⟩ := rdk_open s
  have d1 := (rdkO_d s1).cell 1
  have d3 := (rdkO_d s1).cell 3
  have S := Lib.hid s
  clear s
  cases hlv : M.live
  · have e : rkSync F M = (5, M) := by unfold rkSync; rw [if_pos hlv]
    rw [e]
    rw [hlv] at d1
    simp at d1
    clear e hlv s1 d3
    go_enter Try.func52, Try.ntmps52
    go_wp2_with fail
    go_ret
    exact ⟨rfl, S.out⟩
  · rw [hlv] at d1
    simp at d1 d3
    have Q := Lib.hid (rdead_calls F fb w (R := rdk p (.pointer (some ⟨fb, 0, none⟩)) M * R) (S.out.eq (by ac_rfl)))
    cases hd : fdead (some F)
    · have e : rkSync F M = (0, ⟨M.slots, M.live, []⟩) := by unfold rkSync; rw [if_neg (by simp [hlv]), if_neg (by simp [hd])]
      rw [e]
      rw [hd] at Q
      have Hl := Lib.hid hlv
      clear e hlv hd s1
      go_enter Try.func52, Try.ntmps52
      go_wp2_with fail
      refine Q.out.mono ?_
      rintro e w1 ⟨rfl, s2⟩
      obtain ⟨b1, e1, b2, e2, hok, h1', h2', h3', h4', s3⟩ := rdk_open (s2.eq (Q := rdk p (.pointer (some ⟨fb, 0, none⟩)) M * (rfz fb F * R)) (by ac_rfl))
      have x2 := (rdkO_d s3).cell 2
      have f2 := (rdkO_d s3).free 2
      simp at x2
      have HOK := Lib.hid hok
      have S3 := Lib.hid (rdkO_d s3)
      clear s2 s3 Q S d1 d3
      go_wp2_with fail
      go_ret
      refine ⟨rfl, rdk_mk (sv := .slice b1 M.slots.length e1) (wv := .slice none 0 0) ⟨HOK.out.few, HOK.out.len, by simp, by simp, by simp⟩ ?_⟩
      have s4 := (S3.out.set 2 (.slice none 0 0)).eq (Q := (row 95 3 (.slice b2 M.wait.length e2) M.wait.length (M.wait.flatMap wtC)) * (pts p (.cells #[.slice b1 M.slots.length e1, .bool M.live, .slice none 0 0, .pointer (some ⟨fb, 0, none⟩)] 75 (0, 0)) * (row 9 1 (.slice b1 M.slots.length e1) M.slots.length (M.slots.map str) * (rfz fb F * R)))) (by
        show pts p (.cells #[.slice b1 M.slots.length e1, .bool M.live, .slice none 0 0, .pointer (some ⟨fb, 0, none⟩)] 75 (0, 0)) * _ = _
        ac_rfl)
      have s5 := s4.right.rowNil 95 3
      exact s5.eq (by unfold rdkO; simp only [List.length_nil, List.flatMap_nil]; ac_rfl)
    · have e : rkSync F M = (4, M) := by unfold rkSync; rw [if_neg (by simp [hlv]), if_pos hd]
      rw [e]
      rw [hd] at Q
      clear e hlv hd s1
      go_enter Try.func52, Try.ntmps52
      go_wp2_with fail
      refine Q.out.mono ?_
      rintro e w1 ⟨rfl, s2⟩
      have S2 := Lib.hid s2
      clear s2 Q S d1 d3
      go_wp2_with fail
      go_ret
      exact ⟨rfl, S2.out.eq (by ac_rfl)⟩
/-- Where d.Wait = append(d.Wait, Write{..}) stands. -/
def WJ (B : Nat) (w0 : World) (p : Nat) (fv sv wv : Value) (M : Rk) (x : Wt) (R : HP) (j : Nat) (vs : Nat → Value) (w : World) : Prop := match j with
  | 0 => St B w0 w (rdkO p fv sv wv M * R)
  | 1 => ∃ g, vs 0 = .slice (some ⟨g, 0, none⟩) 1 1 ∧ St B w0 w (pts g (.cells #[.int .i64 (x.slot : Int), str x.was, str x.now] 95 (0, 0)) * (rdkO p fv sv wv M * R))
  | 2 => ∃ wv', vs 1 = wv' ∧ wv'.oneCell' = true ∧ St B w0 w (pts p (.cells #[sv, .bool M.live, wv, fv] 75 (0, 0)) * (row 9 1 sv M.slots.length (M.slots.map str) * (row 95 3 wv' (M.wait.length + 1) (M.wait.flatMap wtC ++ wtC x) * R)))
  | _ => ∃ wv', St B w0 w (pts p (.cells #[sv, .bool M.live, wv', fv] 75 (0, 0)) * (row 9 1 sv M.slots.length (M.slots.map str) * (row 95 3 wv' (M.wait.length + 1) (M.wait.flatMap wtC ++ wtC x) * R)))
section
variable {sv wv : Value} {x : Wt}
theorem WJ.d : ∀ {j : Nat} {vs : Nat → Value} {w : World}, j < 3 → WJ B w0 p fv sv wv M x R j vs w → ∃ Z, St B w0 w (pts p (.cells #[sv, .bool M.live, wv, fv] 75 (0, 0)) * Z)
  | 0, _, _, _, h => ⟨_, rdkO_d h⟩
  | 1, _, _, _, ⟨_, _, h⟩ => ⟨_, rdkO_d h.right⟩
  | 2, _, _, _, ⟨_, _, _, h⟩ => ⟨_, h⟩
  | j + 3, _, _, hj, _ => absurd hj (by omega)
theorem WJ.sl : ∀ {j : Nat} {vs : Nat → Value} {w : World}, WJ B w0 p fv sv wv M x R j vs w → (∃ fv' wv', ∃ Z, St B w0 w (pts p (.cells #[sv, .bool M.live, wv', fv'] 75 (0, 0)) * Z)) ∧ ∃ Z, St B w0 w (row 9 1 sv M.slots.length (M.slots.map str) * Z)
  | 0, _, _, h => ⟨⟨_, _, _, rdkO_d h⟩, _, rdkO_s h⟩
  | 1, _, _, ⟨_, _, h⟩ => ⟨⟨_, _, _, rdkO_d h.right⟩, _, rdkO_s h.right⟩
  | 2, _, _, ⟨_, _, _, h⟩ => ⟨⟨_, _, _, h⟩, _, h.right⟩
  | _ + 3, _, _, ⟨_, h⟩ => ⟨⟨_, _, _, h⟩, _, h.right⟩
theorem tWr : SlT Try.prog 73 95 3 40 (.agg #[.int .i64 0, .string ⟨#[]⟩, .string ⟨#[]⟩]) := ⟨Try.underlying73, info_parts (by kernel_rfl), rfl, by decide⟩
theorem WJ.lit {ρ : Operand → Value} {o : Oper} {vs : Nat → Value} {w : World} {q : Operand} (hop : o.op = .buildSlice 73 1 #[(0, q)]) (hq : ρ q = .agg #[.int .i64 (x.slot : Int), str x.was, str x.now]) (hJ : WJ B w0 p fv sv wv M x R 0 vs w) :
    ∃ v w', (execOp ρ o).run Try.prog w = .ok (.value v) w' ∧ WJ B w0 p fv sv wv M x R 1 (updv vs 0 v) w' := by
  refine ⟨.slice (some ⟨w.heap.size, 0, none⟩) 1 1, w.alloc (.cells #[.int .i64 (x.slot : Int), str x.was, str x.now] 95), ?_, w.heap.size, by simp [updv], St.alloc hJ _⟩
  simp [execOp, hop, hq, go_sem]
theorem WJ.app {ρ : Operand → Value} {o : Oper} {vs : Nat → Value} {w : World} {q q2 : Operand} (hop : o.op = .call { callee := .builtin .append, args := #[q, q2], argTypes := #[73, 73] })
    (hx : ρ q = wv) (hy : ρ q2 = vs 0) (hl : M.wait.length ≤ 1000000) (hJ : WJ B w0 p fv sv wv M x R 1 vs w) :
    ∃ v w', (execOp ρ o).run Try.prog w = .ok (.value v) w' ∧ WJ B w0 p fv sv wv M x R 2 (updv vs 1 v) w' := by
  obtain ⟨g, e, h⟩ := hJ
  have hrd : Rd w (some ⟨g, 0, none⟩) (wtC x) := h.rd 0 3
  have s1 := h.eq (Q := row 95 3 wv M.wait.length (M.wait.flatMap wtC) * (pts g (.cells #[.int .i64 (x.slot : Int), str x.was, str x.now] 95 (0, 0)) * (pts p (.cells #[sv, .bool M.live, wv, fv] 75 (0, 0)) * (row 9 1 sv M.slots.length (M.slots.map str) * R)))) (by unfold rdkO; ac_rfl)
  obtain ⟨v', w', hr, s2, -⟩ := run_append_st (P := Try.prog) tWr o.type s1 (some ⟨g, 0, none⟩) 1 1 (wtC x) hrd (fun e => by cases e) rfl (by intro u hu; simp [wtC] at hu; rcases hu with rfl | rfl | rfl <;> rfl) (by unfold maxLen; omega) (by omega)
  have h1 : v'.oneCell' = true := by
    obtain ⟨a, c, rfl, -⟩ := s2.rowSlice
    rfl
  refine ⟨v', w', ?_, v', by simp [updv], h1, (s2.eq (Q := pts g (.cells #[.int .i64 (x.slot : Int), str x.was, str x.now] 95 (0, 0)) * (pts p (.cells #[sv, .bool M.live, wv, fv] 75 (0, 0)) * (row 9 1 sv M.slots.length (M.slots.map str) * (row 95 3 v' (M.wait.length + 1) (M.wait.flatMap wtC ++ wtC x) * R)))) (by ac_rfl)).right⟩
  simp [execOp, hop, resolve, invoke, builtin, hx, hy, e, hr, Result.andThen]
theorem WJ.sto {ρ : Operand → Value} {o : Oper} {vs : Nat → Value} {w : World} {q q2 : Operand} (hop : o.op = .store 73 q q2) (hx : ρ q = .pointer (some ⟨p, 2, none⟩)) (hy : ρ q2 = vs 1) (hJ : WJ B w0 p fv sv wv M x R 2 vs w) :
    ∃ w', (execOp ρ o).run Try.prog w = .ok .skip w' ∧ WJ B w0 p fv sv wv M x R 3 vs w' := by
  obtain ⟨wv', e, h1, h⟩ := hJ
  exact ⟨_, exec_store hop hx (hy.trans e) h1 (by kernel_rfl) (h.cell 2) (h.free 2), wv', h.set 2 wv'⟩
end
end
end Go.Proofs.Yteikpbangjpilaa.DskR
