/- The document's disk, walked: Rot. No condition. -/
import Derived.Test.YteikpbangjpilaaDskR4
set_option linter.unusedSimpArgs false
set_option linter.unusedVariables false
namespace Go.Proofs.Yteikpbangjpilaa.DskR
open Go Go.RowKit Go.Proofs.Yteikpbangjpilaa Go.Proofs.Yteikpbangjpilaa.Sp Go.Proofs.Yteikpbangjpilaa.Reg Go.Proofs.Yteikpbangjpilaa.SlW Go.Proofs.Yteikpbangjpilaa.Fus Go.Proofs.Yteikpbangjpilaa.TapR Go.Proofs.Yteikpbangjpilaa.DskN Go.Proofs.Yteikpbangjpilaa.DskW
section
variable {B : Nat} {w0 w : World} {R : HP} {p : Nat} {fv : Value} {M : Rk}
theorem frozen_far {g c : Nat} {C : Array Value} {t : TypeId} (s : St B w0 w (pts g (.cells C t (c, c + 1)) * R)) {i : Nat} (hi : i < c) : w.frozen? ⟨g, i, none⟩ = false := by
  have hb := s.block
  simp only [World.frozen?, hb]
  simp
  omega
/-- []byte(s): a block of one's own. -/
theorem conv_st (F : List UInt8) (hF : F.length ≤ maxLen) (s : St B w0 w R) : ∃ (cap : Nat) (C : Array Value) (w' : World), (convert 9 25 (str F)).run Try.prog w = .ok (.slice (some ⟨w.heap.size, 0, none⟩) F.length cap) w' ∧
    C.size = cap ∧ F.length ≤ cap ∧ cap ≤ maxLen ∧ C.toList.take F.length = bvs F ∧ St B w0 w' (pts w.heap.size (.cells C 5 (cap, cap + 1)) * R) := by
  have hsz : (⟨F.toArray⟩ : ByteArray).size = F.length := by simp [ByteArray.size]
  have q := run_bytes_of_string (P := Try.prog) w 9 25 5 ⟨F.toArray⟩ Try.underlying9 Try.underlying25 Try.underlying5
  rw [hsz] at q
  have g1 := grownCap_ge w F.length 0 5
  have g2 := grownCap_le_maxLen w F.length 0 5 hF
  generalize grownCap w F.length 0 5 = cap at q g1 g2
  have hC : (bytesRow ⟨F.toArray⟩ cap).size = cap := by simp [bytesRow, hsz]; omega
  rw [hC] at q
  exact ⟨cap, _, _, q, hC, g1, g2, by simp [bytesRow, hsz, bvs, List.take_append_of_le_length], s.drew.alloc _⟩
theorem blk_cell {g : Nat} {C : Array Value} {f : Nat × Nat} {F : List UInt8} (h3 : C.toList.take F.length = bvs F) (s : St B w0 w (pts g (.cells C 5 f) * R)) (j : Nat) (hj : j < F.length) : w.cell? ⟨g, j, none⟩ = some (bv F[j]) := by
  rw [s.cell j]
  have h := congrArg (·[j]?) h3
  simp only [List.getElem?_take, hj, if_true, Array.getElem?_toList] at h
  rw [h]
  simp [bvs, hj]
theorem blk_bs {g cap : Nat} {C : Array Value} {f : Nat × Nat} {F : List UInt8} (h1 : F.length ≤ cap) (h2 : cap ≤ maxLen) (h3 : C.toList.take F.length = bvs F) (s : St B w0 w (pts g (.cells C 5 f) * R)) : BS w (.slice (some ⟨g, 0, none⟩) F.length cap) F := by
  refine ⟨_, _, rfl, h1, h2, (fun e => by cases e), .inr ⟨g, 0, rfl, fun j u hj => ?_⟩⟩
  have hj' : j < F.length := by have := (List.getElem?_eq_some_iff.1 hj).1; simpa using this
  have e : (F.map bv)[j]? = some (bv F[j]) := by simp [hj']
  rw [e] at hj
  cases hj
  rw [Nat.zero_add]
  exact blk_cell h3 s j hj'
/-- Where a string is stored in a slot. -/
def TJ (B : Nat) (w0 : World) (p : Nat) (fv sv wv : Value) (L : List (List UInt8)) (lv : Bool) (W : List Wt) (k : Nat) (x : List UInt8) (R : HP) (j : Nat) (w : World) : Prop := match j with
  | 0 => St B w0 w (rdkO p fv sv wv ⟨L, lv, W⟩ * R)
  | _ => St B w0 w (rdkO p fv sv wv ⟨L.set k x, lv, W⟩ * R)
theorem TJ.st {sv wv : Value} {L : List (List UInt8)} {lv : Bool} {W : List Wt} {k : Nat} {x : List UInt8} : ∀ {j : Nat} {w : World}, TJ B w0 p fv sv wv L lv W k x R j w → ∃ L', St B w0 w (rdkO p fv sv wv ⟨L', lv, W⟩ * R)
  | 0, _, h => ⟨_, h⟩
  | _ + 1, _, h => ⟨L.set k x, h⟩
/-- Where a string is stored in a pending write. -/
def UJ (B : Nat) (w0 : World) (p : Nat) (fv sv wv : Value) (L : List (List UInt8)) (lv : Bool) (W W' : List Wt) (R : HP) (j : Nat) (w : World) : Prop := match j with
  | 0 => St B w0 w (rdkO p fv sv wv ⟨L, lv, W⟩ * R)
  | _ => St B w0 w (rdkO p fv sv wv ⟨L, lv, W'⟩ * R)
theorem UJ.st {sv wv : Value} {L : List (List UInt8)} {lv : Bool} {W W' : List Wt} : ∀ {j : Nat} {w : World}, UJ B w0 p fv sv wv L lv W W' R j w → ∃ Q, St B w0 w (rdkO p fv sv wv ⟨L, lv, Q⟩ * R)
  | 0, _, h => ⟨W, h⟩
  | _ + 1, _, h => ⟨W', h⟩
theorem flat_now (W : List Wt) : ∀ (q : Nat) (hq : q < W.length) (x : List UInt8), (W.flatMap wtC).set (3 * q + 2) (str x) = (W.set q ⟨W[q].slot, W[q].was, x⟩).flatMap wtC := by
  induction W with
  | nil => intro q hq; simp at hq
  | cons a W ih =>
    intro q hq x
    have e : (a :: W).flatMap wtC = wtC a ++ W.flatMap wtC := by simp
    rw [e]
    cases q with
    | zero => simp [wtC]
    | succ q =>
      rw [List.set_append_right _ _ (by simp [wtC]; omega)]
      have := ih q (by simpa using hq) x
      rw [show 3 * (q + 1) + 2 - (wtC a).length = 3 * q + 2 by simp [wtC]; omega, this]
      simp
section
variable {g n c q : Nat} {W : List Wt} {Y : HP}
theorem wait_cell (hn : W.length = n) (hq : q < W.length) (z : St B w0 w (row 95 3 (.slice (some ⟨g, 0, none⟩) n c) W.length (W.flatMap wtC) * Y)) :
    w.cell? ⟨g, q * 3, none⟩ = some (.int .i64 (W[q].slot : Int)) ∧ w.cell? ⟨g, q * 3 + 1, none⟩ = some (str W[q].was) ∧ w.cell? ⟨g, q * 3 + 2, none⟩ = some (str W[q].now) := by
  obtain ⟨g', c', hv, -, -, -, hcl⟩ := z.rowCells (by omega)
  cases hv
  have k0 := (hcl (q * 3) (by omega)).trans (wt_at W q hq 0 (by omega))
  have k1 := (hcl (q * 3 + 1) (by omega)).trans (wt_at W q hq 1 (by omega))
  have k2 := (hcl (q * 3 + 2) (by omega)).trans (wt_at W q hq 2 (by omega))
  exact ⟨k0, k1, k2⟩
theorem wait_set (hn : W.length = n) (hq : q < W.length) (z : St B w0 w (row 95 3 (.slice (some ⟨g, 0, none⟩) n c) W.length (W.flatMap wtC) * Y)) (x : List UInt8) :
    w.frozen? ⟨g, q * 3 + 2, none⟩ = false ∧ St B w0 (w.setCell ⟨g, q * 3 + 2, none⟩ (str x)) (row 95 3 (.slice (some ⟨g, 0, none⟩) n c) W.length ((W.set q ⟨W[q].slot, W[q].was, x⟩).flatMap wtC) * Y) := by
  subst hn
  have h := row_set z (j := q * 3 + 2) (by omega) (str x)
  rw [show q * 3 + 2 = 3 * q + 2 by omega] at h ⊢
  rw [← flat_now W q hq x]
  exact h
theorem wait_back {sv : Value} {L : List (List UInt8)} {lv : Bool} {W' : List Wt} {w' : World} (z : St B w0 w' (row 95 3 (.slice (some ⟨g, 0, none⟩) n c) W.length (W'.flatMap wtC) * (pts p (.cells #[sv, .bool lv, .slice (some ⟨g, 0, none⟩) n c, fv] 75 (0, 0)) * (row 9 1 sv L.length (L.map str) * R)))) (hl : W'.length = W.length) :
    St B w0 w' (rdkO p fv sv (.slice (some ⟨g, 0, none⟩) n c) ⟨L, lv, W'⟩ * R) := z.eq (by
  unfold rdkO
  simp only [hl]
  ac_rfl)
end
set_option maxRecDepth 100000 in
set_option maxHeartbeats 8000000 in
theorem rdrot_calls (i k : Int) (x : UInt8) (w : World) (s : St B w0 w (rdk p fv M * R)) :
    Calls Try.prog 54 #[.pointer (some ⟨p, 0, none⟩), .int .i64 i, .int .i64 k, bv x] w (RetS B w0 (rdk p fv (rkRot M i k x).2 * R) (.bool (rkRot M i k x).1)) := by
  have Q := Lib.hid (rslot_calls i w s)
  have S := Lib.hid s
  clear s
  unfold bv
  by_cases hc : 0 ≤ i ∧ i < (M.slots.length : Int)
  case neg =>
    rw [decide_eq_false hc] at Q
    have e : rkRot M i k x = (false, M) := by unfold rkRot; rw [if_neg (fun h => hc h.1)]
    rw [e]
    clear e
    go_enter Try.func54, Try.ntmps54
    go_wp2_with fail
    refine Q.out.mono ?_
    rintro e w1 ⟨rfl, s1⟩
    obtain ⟨a1, c1, a2, c2, hok, h1, h2, h3, h4, s2⟩ := rdk_open s1
    have d1 := (rdkO_d s2).cell 1
    simp at d1
    have S1 := Lib.hid s1
    clear s1 s2 Q S
    go_wp2_with fail
    go_ret
    exact ⟨rfl, S1.out⟩
  rw [decide_eq_true hc] at Q
  by_cases hk0 : k < 0
  · skip
    have e : rkRot M i k x = (false, M) := by unfold rkRot; rw [if_neg (fun h => (by omega : ¬ (0 ≤ k)) h.2.1)]
    rw [e]
    clear e
    go_enter Try.func54, Try.ntmps54
    go_wp2_with fail
    refine Q.out.mono ?_
    rintro e w1 ⟨rfl, s1⟩
    obtain ⟨a1, c1, a2, c2, hok, h1, h2, h3, h4, s2⟩ := rdk_open s1
    have d1 := (rdkO_d s2).cell 1
    simp at d1
    have S1 := Lib.hid s1
    clear s1 s2 Q S
    go_wp2_with fail
    go_ret
    exact ⟨rfl, S1.out⟩
  by_cases hk1 : 95 < k
  · skip
    have e : rkRot M i k x = (false, M) := by unfold rkRot; rw [if_neg (fun h => (by omega : ¬ (k < 96)) h.2.2.1)]
    rw [e]
    clear e
    go_enter Try.func54, Try.ntmps54
    go_wp2_with fail
    refine Q.out.mono ?_
    rintro e w1 ⟨rfl, s1⟩
    obtain ⟨a1, c1, a2, c2, hok, h1, h2, h3, h4, s2⟩ := rdk_open s1
    have d1 := (rdkO_d s2).cell 1
    simp at d1
    have S1 := Lib.hid s1
    clear s1 s2 Q S
    go_wp2_with fail
    go_ret
    exact ⟨rfl, S1.out⟩
  cases hlv : M.live
  · have e : rkRot M i k x = (false, M) := by unfold rkRot; rw [if_neg (fun h => by rw [hlv] at h; cases h.2.2.2)]
    rw [e]
    have Hl := Lib.hid hlv
    clear e hlv
    go_enter Try.func54, Try.ntmps54
    go_wp2_with fail
    refine Q.out.mono ?_
    rintro e w1 ⟨rfl, s1⟩
    obtain ⟨a1, c1, a2, c2, hok, h1, h2, h3, h4, s2⟩ := rdk_open s1
    have d1 := (rdkO_d s2).cell 1
    rw [Hl.out] at d1
    simp at d1
    have S1 := Lib.hid s1
    clear s1 s2 Q S
    go_wp2_with fail
    go_ret
    exact ⟨rfl, S1.out⟩
  have Hl := Lib.hid hlv
  obtain ⟨n, rfl⟩ : ∃ n : Nat, i = (n : Int) := ⟨i.toNat, by omega⟩
  obtain ⟨m, rfl⟩ : ∃ m : Nat, k = (m : Int) := ⟨k.toNat, by omega⟩
  have hn : n < M.slots.length := by omega
  have hnI : (n : Int) < (M.slots.length : Int) := by omega
  have hm : m < 96 := by omega
  have e3 : M.slots.getD n [] = M.slots[n] := by simp [List.getD_eq_getElem?_getD, hn]
  have e : rkRot M n m x = (true, ⟨M.slots.set n (M.slots[n].set m (M.slots[n].getD m 0 ^^^ x)), true, setLast n (M.slots[n].set m (M.slots[n].getD m 0 ^^^ x)) M.wait M.wait.length⟩) := by
    unfold rkRot
    rw [if_pos ⟨hc, by omega, by omega, hlv⟩]
    simp only [Int.toNat_natCast, e3, hlv]
  rw [e]
  have hx : (M.slots.map str)[n]? = some (str M.slots[n]) := by rw [List.getElem?_map, List.getElem?_eq_getElem hn]; rfl
  have hyl : M.ok → M.slots[n].length = 96 := fun h => h.len _ (List.getElem_mem _)
  clear e e3 hc hlv
  generalize M.slots[n] = y at *
  obtain ⟨b, hb⟩ : ∃ b, b = y.set m (y.getD m 0 ^^^ x) := ⟨_, rfl⟩
  rw [← hb]
  have HBB := Lib.hid hb
  have HX := Lib.hid hx
  have HN := Lib.hid hn
  clear hb
  go_enter Try.func54, Try.ntmps54
  go_wp2_with fail
  refine Q.out.mono ?_
  rintro e w1 ⟨rfl, s1⟩
  obtain ⟨a1, c1, a2, c2, hok, h1, h2, h3, h4, s2⟩ := rdk_open s1
  obtain ⟨g, c, hv, -, -, -, hcl⟩ := (rdkO_s s2).rowCells (by omega)
  cases hv
  have d0 := (rdkO_d s2).cell 0
  have d1 := (rdkO_d s2).cell 1
  rw [Hl.out] at d1
  simp at d0 d1
  have xn := (hcl n (by omega)).trans HX.out
  have hy96 := hyl hok
  obtain ⟨cap, C, w2, hr, q1, q2, q3, q4, s3⟩ := conv_st y (by unfold maxLen; omega) s2
  have xb := blk_cell q4 s3 m (by omega)
  have fb := frozen_far s3 (i := m) (by omega)
  have hxor := bits_xor_u8 (y[m]'(by omega)) x
  have hgd : y.getD m 0 = y[m]'(by omega) := by simp [List.getD_eq_getElem?_getD, show m < y.length by omega]
  have s4 := s3.set m (bv (y[m]'(by omega) ^^^ x))
  have q5 : (C.setIfInBounds m (bv (y[m]'(by omega) ^^^ x))).toList.take (y.set m (y[m]'(by omega) ^^^ x)).length = bvs (y.set m (y[m]'(by omega) ^^^ x)) := by
    rw [List.length_set, Array.toList_setIfInBounds, List.take_set, q4]
    simp [bvs, List.map_set]
  have hbe : y.set m (y[m]'(by omega) ^^^ x) = b := by rw [HBB.out, hgd]
  rw [hbe] at q5
  have hb96 : b.length = 96 := by rw [← hbe, List.length_set]; exact hy96
  have hcap : y.length ≤ cap := q2
  have S4 := Lib.hid s4
  have Q5 := Lib.hid q5
  have HOK := Lib.hid hok
  have hmI : (m : Int) < 96 := by omega
  have hyI : (y.length : Int) = 96 := by omega
  have hnc : (n : Int) < (c1 : Int) := by omega
  unfold bv at xb
  clear s1 s2 s3 s4 q4 q5 hcl Q S hok hx hyl hgd hbe HBB
  go_wp2_with fail
  generalize w1.heap.size = gb at *
  have S5 := Lib.hid (S4.out.eq (Q := rdkO p fv (.slice (some ⟨g, 0, none⟩) M.slots.length c1) (.slice a2 M.wait.length c2) ⟨M.slots, M.live, M.wait⟩ * (pts gb (.cells (C.setIfInBounds m (bv (y[m]'(by omega) ^^^ x))) 5 (cap, cap + 1)) * R)) (by
    show _ * (rdkO p fv _ _ M * R) = rdkO p fv _ _ M * _
    ac_rfl))
  have HST := Lib.hid (show ∀ (w : World) (Z : HP), St B w0 w (pts gb (.cells (C.setIfInBounds m (bv (y[m]'(by omega) ^^^ x))) 5 (cap, cap + 1)) * Z) → (convert 25 9 (.slice (some ⟨gb, 0, none⟩) 96 cap)).run Try.prog w = .ok (str b) w from fun w Z s => by
    have h := blk_bs (F := b) (by omega) q3 Q5.out s
    rw [hb96] at h
    exact run_str (P := Try.prog) Try.underlying25 Try.underlying5 Try.underlying9 h)
  generalize hBK : pts gb (.cells (C.setIfInBounds m (bv (y[m]'(by omega) ^^^ x))) 5 (cap, cap + 1)) = BK at *
  clear S4 hBK xb fb Q5
  have hwl : M.wait.length ≤ 9223372036854775807 := by have := HOK.out.wfew; omega
  refine wp_region_rx (TJ B w0 p fv (.slice (some ⟨g, 0, none⟩) M.slots.length c1) (.slice a2 M.wait.length c2) M.slots M.live M.wait n b (BK * R)) [8] mixed (by kernel_rfl) (by kernel_rfl) (St.drew S5.out) ?_
  refine RXl.exact (.pointer (some ⟨p, 0, none⟩)) rfl rfl rfl rfl rfl (fun _ _ _ _ _ => rfl) ?_
  refine RXl.exact (.pointer (some ⟨p, 0, none⟩)) rfl rfl rfl rfl rfl (fun j τ w' hj hJ => by simp [rho, upd, Spec.val, execOp, go_sem]) ?_
  refine RXl.exact (.pointer (some ⟨p, 0, none⟩)) rfl rfl rfl rfl rfl (fun j τ w' hj hJ => by simp [rho, upd, Spec.val, execOp, go_sem]) ?_
  refine RXl.exact (.slice (some ⟨g, 0, none⟩) M.slots.length c1) rfl rfl rfl rfl rfl (fun j τ w' hj hJ => by obtain ⟨L', z⟩ := TJ.st hJ; have c := (rdkO_d z).cell 0; simp at c; simp [rho, upd, Spec.val, execOp, go_sem, c]) ?_
  refine RXl.exact (.int .i64 n) rfl rfl rfl rfl rfl (fun _ _ _ _ _ => rfl) ?_
  refine RXl.exact (.slice (some ⟨gb, 0, none⟩) 96 cap) rfl rfl rfl rfl rfl (fun _ _ _ _ _ => rfl) ?_
  refine RXl.exact (str b) rfl rfl rfl rfl rfl (fun j τ w' hj hJ => by obtain ⟨L', z⟩ := TJ.st hJ; have c := HST.out _ _ z.right; simp [rho, upd, Spec.val, execOp, go_sem, c]) ?_
  refine RXl.exact (.pointer (some ⟨g, n, none⟩)) rfl rfl rfl rfl rfl (fun j τ w' hj hJ => by simp [rho, upd, Spec.val, execOp, go_sem, hnI, hnc]) ?_
  refine RXl.effj 0 rfl rfl rfl rfl rfl rfl (fun w' hJ => (let z := rdkO_s (show St B w0 w' (rdkO p fv (.slice (some ⟨g, 0, none⟩) M.slots.length c1) (.slice a2 M.wait.length c2) ⟨M.slots, M.live, M.wait⟩ * (BK * R)) from hJ); ⟨_, exec_store rfl rfl rfl rfl (by kernel_rfl) (slot_cell rfl HN.out z).choose_spec (slot_set rfl HN.out z (str b)).1, slot_back rfl (slot_set rfl HN.out z (str b)).2⟩)) ?_
  refine RXl.nilx _ (Agr.upd _ _ (Agr.upd _ _ (Agr.upd _ _ (Agr.upd _ _ (Agr.upd _ _ (Agr.upd _ _ (Agr.upd _ _ (Agr.upd _ _ (Agr.base _))))))))) fun w8 hJ => ?_
  obtain ⟨_, hJ⟩ := hJ
  simp only [Act.put, List.setIfInBounds_toArray, List.set_cons_succ, List.set_cons_zero]
  have S6 := Lib.hid (show St B w0 w8 (rdkO p fv (.slice (some ⟨g, 0, none⟩) M.slots.length c1) (.slice a2 M.wait.length c2) ⟨M.slots.set n b, M.live, M.wait⟩ * (BK * R)) from hJ)
  clear hJ S5
  have d2 := (rdkO_d S6.out).cell 2
  simp at d2
  have HOK2 := Lib.hid (show ∀ W : List Wt, (∀ u ∈ W, u.was.length = 96 ∧ u.now.length = 96) → (∀ u ∈ W, u.slot < M.slots.length) → W.length ≤ 1000000 → Rk.ok ⟨M.slots.set n b, true, W⟩ from fun W h1 h2 h3 => ⟨by simpa using HOK.out.few, fun u hu => by
    rcases List.mem_or_eq_of_mem_set hu with h | rfl
    · exact HOK.out.len _ h
    · exact hb96, h1, fun u hu => by show u.slot < (M.slots.set n b).length; rw [List.length_set]; exact h2 u hu, h3⟩)
  go_wp2_with fail
  go_loopw [10] (fun i wr => ∃ q : Nat, q ≤ M.wait.length ∧ i = .int .i64 ((q : Int) - 1) ∧ setLast n b M.wait M.wait.length = setLast n b M.wait q ∧ St B w0 wr (rdkO p fv (.slice (some ⟨g, 0, none⟩) M.slots.length c1) (.slice a2 M.wait.length c2) ⟨M.slots.set n b, M.live, M.wait⟩ * (BK * R))) (fun i => fun _ => (intOf i + 1).toNat)
  case atStart => exact ⟨M.wait.length, Nat.le_refl _, by first | rfl | (congr 1; omega), rfl, S6.out⟩
  case round =>
    obtain ⟨q, hq, rfl, hsl, s⟩ := hrel
    clear S6 d2 d0 d1
    have S := Lib.hid s
    have d2 := (rdkO_d s).cell 2
    simp at d2
    cases q with
    | zero =>
      have hneg : ¬ (0 : Int) ≤ ((0 : Nat) : Int) - 1 := by omega
      have HF := Lib.hid (show setLast n b M.wait M.wait.length = M.wait from hsl)
      clear s hsl
      go_wp2_with fail
      go_ret
      rw [HF.out]
      refine ⟨rfl, rdk_mk (sv := .slice (some ⟨g, 0, none⟩) M.slots.length c1) (wv := .slice a2 M.wait.length c2) (HOK2.out _ HOK.out.wlen HOK.out.wslot HOK.out.wfew) ?_⟩
      have s5 := S.out
      rw [Hl.out] at s5
      exact (s5.eq (Q := BK * (rdkO p fv (.slice (some ⟨g, 0, none⟩) M.slots.length c1) (.slice a2 M.wait.length c2) ⟨M.slots.set n b, true, M.wait⟩ * R)) (by ac_rfl)).right
    | succ q =>
      rw [show ((q + 1 : Nat) : Int) - 1 = (q : Int) by omega]
      have hqI : (q : Int) < (M.wait.length : Int) := by omega
      obtain ⟨gw, cw, hv, -, -, -, -⟩ := (rdkO_w s).rowCells (by show 0 < M.wait.length; omega)
      obtain ⟨ha2, hc2⟩ : a2 = some ⟨gw, 0, none⟩ ∧ c2 = cw := by
        injection hv with e1 e2 e3
        exact ⟨e1, e3⟩
      subst ha2
      have hqc : (q : Int) < (c2 : Int) := by omega
      obtain ⟨t00, -, -⟩ := wait_cell (q := q) rfl (by show q < M.wait.length; omega) (rdkO_w s)
      have hgd : M.wait.getD q ⟨0, [], []⟩ = M.wait[q] := by simp [List.getD_eq_getElem?_getD, show q < M.wait.length by omega]
      have hst : setLast n b M.wait (q + 1) = if M.wait[q].slot = n then M.wait.set q ⟨n, M.wait[q].was, b⟩ else setLast n b M.wait q := by
        show (if (M.wait.getD q ⟨0, [], []⟩).slot = n then _ else _) = _
        rw [hgd]
      have t0 : wr.cell? ⟨gw, q * 3, none⟩ = some (.int .i64 (M.wait[q].slot : Int)) := t00
      clear t00
      by_cases hs : M.wait[q].slot = n
      · have hsb : ((M.wait[q].slot : Int) == (n : Int)) = true := by rw [beq_iff_eq, hs]
        have hsb2 : (M.wait[q].slot == n) = true := by rw [beq_iff_eq, hs]
        rw [if_pos hs] at hst
        have HW := Lib.hid (hsl.trans hst)
        have HS2 := Lib.hid hs
        clear s hsl hst hs hgd hv
        generalize hsv : M.wait[q].slot = sl at t0 hsb hsb2
        have HSV := Lib.hid hsv
        clear hsv
        go_wp2_with fail
        refine wp_region_rx (UJ B w0 p fv (.slice (some ⟨g, 0, none⟩) M.slots.length c1) (.slice (some ⟨gw, 0, none⟩) M.wait.length c2) (M.slots.set n b) M.live M.wait (M.wait.set q ⟨M.wait[q].slot, M.wait[q].was, b⟩) (BK * R)) [9] mixed (by kernel_rfl) (by kernel_rfl) (St.drew S.out) ?_
        refine RXl.exact (.pointer (some ⟨p, 0, none⟩)) rfl rfl rfl rfl rfl (fun _ _ _ _ _ => rfl) ?_
        refine RXl.exact (.pointer (some ⟨p, 0, none⟩)) rfl rfl rfl rfl rfl (fun j τ w' hj hJ => by simp [rho, upd, Spec.val, execOp, go_sem]) ?_
        refine RXl.exact (.pointer (some ⟨p, 2, none⟩)) rfl rfl rfl rfl rfl (fun j τ w' hj hJ => by simp [rho, upd, Spec.val, execOp, go_sem]) ?_
        refine RXl.exact (.slice (some ⟨gw, 0, none⟩) M.wait.length c2) rfl rfl rfl rfl rfl (fun j τ w' hj hJ => by obtain ⟨W', z⟩ := UJ.st hJ; have c := (rdkO_d z).cell 2; simp at c; simp [rho, upd, Spec.val, execOp, go_sem, c]) ?_
        refine RXl.exact (.int .i64 q) rfl rfl rfl rfl rfl (fun _ _ _ _ _ => rfl) ?_
        refine RXl.exact (.slice (some ⟨gb, 0, none⟩) 96 cap) rfl rfl rfl rfl rfl (fun _ _ _ _ _ => rfl) ?_
        refine RXl.exact (str b) rfl rfl rfl rfl rfl (fun j τ w' hj hJ => by obtain ⟨W', z⟩ := UJ.st hJ; have c := HST.out _ _ z.right; simp [rho, upd, Spec.val, execOp, go_sem, c]) ?_
        refine RXl.exact (.pointer (some ⟨gw, q * 3, none⟩)) rfl rfl rfl rfl rfl (fun j τ w' hj hJ => by simp [rho, upd, Spec.val, execOp, go_sem, hqI, hqc]) ?_
        refine RXl.exact (.pointer (some ⟨gw, q * 3 + 2, none⟩)) rfl rfl rfl rfl rfl (fun j τ w' hj hJ => by simp [rho, upd, Spec.val, execOp, go_sem]) ?_
        refine RXl.effj 0 rfl rfl rfl rfl rfl rfl (fun w' hJ => (let z := rdkO_w (show St B w0 w' (rdkO p fv (.slice (some ⟨g, 0, none⟩) M.slots.length c1) (.slice (some ⟨gw, 0, none⟩) M.wait.length c2) ⟨M.slots.set n b, M.live, M.wait⟩ * (BK * R)) from hJ); ⟨_, exec_store rfl rfl rfl rfl (by kernel_rfl) (wait_cell (q := q) rfl (by show q < M.wait.length; omega) z).2.2 (wait_set (q := q) rfl (by show q < M.wait.length; omega) z b).1, wait_back (wait_set (q := q) rfl (by show q < M.wait.length; omega) z b).2 (List.length_set ..)⟩)) ?_
        refine RXl.nilx _ (Agr.upd _ _ (Agr.upd _ _ (Agr.upd _ _ (Agr.upd _ _ (Agr.upd _ _ (Agr.upd _ _ (Agr.upd _ _ (Agr.upd _ _ (Agr.upd _ _ (Agr.base _)))))))))) fun w9 hJ => ?_
        obtain ⟨_, hJ⟩ := hJ
        simp only [Act.put, List.setIfInBounds_toArray, List.set_cons_succ, List.set_cons_zero]
        have S9 := Lib.hid (show St B w0 w9 (rdkO p fv (.slice (some ⟨g, 0, none⟩) M.slots.length c1) (.slice (some ⟨gw, 0, none⟩) M.wait.length c2) ⟨M.slots.set n b, M.live, M.wait.set q ⟨M.wait[q].slot, M.wait[q].was, b⟩⟩ * (BK * R)) from hJ)
        clear hJ S
        go_wp2_with fail
        go_ret
        rw [HW.out]
        have s5 := S9.out
        rw [Hl.out, HS2.out] at s5
        refine ⟨rfl, rdk_mk (sv := .slice (some ⟨g, 0, none⟩) M.slots.length c1) (wv := .slice (some ⟨gw, 0, none⟩) M.wait.length c2) (HOK2.out _ ?_ ?_ ?_) ?_⟩
        · intro u hu
          rcases List.mem_or_eq_of_mem_set hu with h | rfl
          · exact HOK.out.wlen _ h
          · exact ⟨(HOK.out.wlen _ (List.getElem_mem _)).1, hb96⟩
        · intro u hu
          rcases List.mem_or_eq_of_mem_set hu with h | rfl
          · exact HOK.out.wslot _ h
          · exact HN.out
        · rw [List.length_set]; exact HOK.out.wfew
        · exact (s5.eq (Q := BK * (rdkO p fv (.slice (some ⟨g, 0, none⟩) M.slots.length c1) (.slice (some ⟨gw, 0, none⟩) M.wait.length c2) ⟨M.slots.set n b, true, M.wait.set q ⟨n, M.wait[q].was, b⟩⟩ * R)) (by ac_rfl)).right
      · have hsb : ((M.wait[q].slot : Int) == (n : Int)) = false := by rw [beq_eq_false_iff_ne]; omega
        have hsb2 : (M.wait[q].slot == n) = false := by rw [beq_eq_false_iff_ne]; exact hs
        rw [if_neg hs] at hst
        have HW := Lib.hid (hsl.trans hst)
        clear s hsl hst hs hgd hv
        generalize M.wait[q].slot = sl at t0 hsb hsb2
        go_wp2_with fail
        exact ⟨⟨q, by omega, rfl, HW.out, S.out⟩, by simp [intOf]⟩
end
end Go.Proofs.Yteikpbangjpilaa.DskR
