/- The code laws' Shards, walked: rows of one's own, nil where a bit is set, and what the document takes. No condition. -/
import Derived.Test.YtjnfhppjkadlpaaShd
import Derived.Test.YtjnfhppjkadlpaaCdS
set_option linter.unusedSimpArgs false
set_option linter.unusedVariables false
namespace Go.Proofs.Ytjnfhppjkadlpaa.Shd
open Go Go.RowKit Go.Proofs.Ytjnfhppjkadlpaa Go.Proofs.Ytjnfhppjkadlpaa.Sp Go.Proofs.Ytjnfhppjkadlpaa.Reg Go.Proofs.Ytjnfhppjkadlpaa.SlW Go.Proofs.Ytjnfhppjkadlpaa.Rd Go.Proofs.Ytjnfhppjkadlpaa.Obr Go.Proofs.Ytjnfhppjkadlpaa.Cd
/-- What is left of the rows, and their texts. -/
def tl (F : Nat → Bool) (l : List (List UInt8)) (n : Nat) : List (List UInt8) := (List.range n).map fun i => if F i then [] else l.getD i []
def tk (F : Nat → Bool) (l : List (List UInt8)) : Shs := (List.range l.length).map fun i => if F i then none else some (l.getD i [])
def c2 (F : Nat → Bool) (l : List (List UInt8)) (i : Nat) : List Value := if F i then [str [], .bool false] else [str (l.getD i []), .bool true]
def cs (F : Nat → Bool) (l : List (List UInt8)) (n : Nat) : List Value := (List.range n).flatMap (c2 F l)
theorem tl_len (F : Nat → Bool) (l : List (List UInt8)) (n : Nat) : (tl F l n).length = n := by simp [tl]
theorem tk_len (F : Nat → Bool) (l : List (List UInt8)) : (tk F l).length = l.length := by simp [tk]
theorem tl_succ (F : Nat → Bool) (l : List (List UInt8)) (n : Nat) : tl F l (n + 1) = tl F l n ++ [if F n then [] else l.getD n []] := by simp [tl, List.range_succ]
theorem cs_succ (F : Nat → Bool) (l : List (List UInt8)) (n : Nat) : cs F l (n + 1) = cs F l n ++ c2 F l n := by simp [cs, List.range_succ]
/-- Which headers are nil. -/
def HK (F : Nat → Bool) (hs : List Value) : Prop := ∀ j u, hs[j]? = some u → if F j then u = .slice none 0 0 else Nn u
theorem HK.nil (F : Nat → Bool) : HK F [] := fun j u h => by simp at h
theorem HK.snoc {F : Nat → Bool} {hs : List Value} {u : Value} (h : HK F hs) (hu : if F hs.length then u = .slice none 0 0 else Nn u) : HK F (hs ++ [u]) := fun j v hv => by
  by_cases e : j < hs.length
  · rw [List.getElem?_append_left e] at hv; exact h j v hv
  · rw [List.getElem?_append_right (by omega)] at hv
    by_cases e2 : j - hs.length = 0
    · have : j = hs.length := by omega
      subst this
      simp at hv
      subst hv
      exact hu
    · rw [List.getElem?_eq_none (by simp; omega)] at hv
      cases hv
/-- Rows of one's own, some of them missing. -/
def sh (v : Value) (hs : List Value) (F : Nat → Bool) (l : List (List UInt8)) : HP := row 32 1 v l.length hs * rows 5 hs (tl F l l.length)
section
variable {B : Nat} {w0 w : World} {R : HP}
theorem sh_row {v : Value} {hs : List Value} {F : Nat → Bool} {l : List (List UInt8)} (s : St B w0 w (sh v hs F l * R)) : St B w0 w (row 32 1 v l.length hs * (rows 5 hs (tl F l l.length) * R)) := s.eq (by unfold sh; ac_rfl)
theorem sh_srd {v : Value} {hs : List Value} {F : Nat → Bool} {l : List (List UInt8)} (hl : hs.length = l.length) (hk : HK F hs) (s : St B w0 w (sh v hs F l * R)) : SRd B w0 (sh v hs F l) v (tk F l) := by
  obtain ⟨a, c, rfl, h1, h2, h3, -⟩ := (sh_row s).rowSlice
  refine ⟨a, c, hs, by rw [tk_len], by rw [tk_len]; exact hl, by rw [tk_len]; exact h1, h2, h3, fun w H s => (sh_row (s.eq (sep_comm _ _))).rowRd, fun i hi => ?_⟩
  rw [tk_len] at hi
  have hu : hs[i]? = some (hs[i]'(by omega)) := List.getElem?_eq_getElem (by omega)
  refine ⟨_, hu, ?_⟩
  have h := hk i _ hu
  simp only [tk, List.getElem_map, List.getElem_range]
  cases hF : F i with
  | true => rw [hF] at h; exact h
  | false =>
    rw [hF] at h
    obtain ⟨g, n, c', e⟩ := h
    refine ⟨⟨g, 0, n, c', e⟩, fun w H s => ?_⟩
    obtain ⟨u', e1, e2⟩ := (s.eq (Q := rows 5 hs (tl F l l.length) * (H * row 32 1 (.slice a l.length c) l.length hs)) (by unfold sh; ac_rfl)).rowsBS _ _ (by rw [tl_len]; exact hl) i (by rw [tl_len]; exact hi)
    rw [hu] at e1
    cases e1
    simpa [tl, hF] using e2
/-- A row is made, and filled. -/
def MF (n : Nat) (k : Nat) (a : Nat × Nat × Nat) : Value := match k with
  | 0 => .slice (some ⟨a.1, 0, none⟩) 0 (n + 1)
  | _ => .slice (some ⟨a.2.1, 0, none⟩) n a.2.2
def MH (b : List UInt8) (X : HP) (k : Nat) (a : Nat × Nat × Nat) : HP := match k with
  | 0 => row 5 1 (.slice (some ⟨a.1, 0, none⟩) 0 (b.length + 1)) 0 [] * X
  | _ => row 5 1 (.slice (some ⟨a.2.1, 0, none⟩) b.length a.2.2) b.length (bvs b) * X
theorem run_append_nn {B : Nat} {w0 w : World} {R : HP} {g c : Nat} (b : List UInt8) (hb : b.length ≤ 1000) (s : St B w0 w (row 5 1 (.slice (some ⟨g, 0, none⟩) 0 c) 0 [] * R)) (ty : TypeId) (ax : Option Addr) (c' : Nat) (h : BS w (.slice ax b.length c') b) :
    ∃ g' c2 w', (Builtin.append_ #[32, 32] ty #[.slice (some ⟨g, 0, none⟩) 0 c, .slice ax b.length c']).run Try.prog w = .ok (.slice (some ⟨g', 0, none⟩) b.length c2) w' ∧ St B w0 w' (row 5 1 (.slice (some ⟨g', 0, none⟩) b.length c2) b.length (bvs b) * R) := by
  obtain ⟨v', w', r1, r2, r3⟩ := run_append_st (P := Try.prog) tB ty s ax b.length c' (bvs b) h.rd.2.2.2.2 h.rd.2.2.2.1 (by simp) (bvs_one b) (by unfold maxLen; omega) (by omega)
  rw [Nat.zero_add, List.nil_append] at r2
  obtain ⟨-, ⟨e, -, -⟩ | ⟨g', cap, cur, rfl, -⟩⟩ := r2.rowOpen
  · cases (r3.1 e).1
  · exact ⟨g', cap, w', r1, r2⟩
theorem MJ_x {b : List UInt8} {X : HP} {j : Nat} {vs : Nat → Value} {w : World} (h : PJ B w0 X (MF b.length) (MH b X) j vs w) : ∃ Z, St B w0 w (Z * X) := by
  obtain ⟨Z, ⟨Z', rfl⟩, s⟩ := PJ.any (Y := fun Z => ∃ Z', Z = Z' * X) ⟨emp, (emp_sep _).symm⟩ (fun j a => match j with
    | 0 => ⟨_, rfl⟩
    | _ + 1 => ⟨_, rfl⟩) h
  exact ⟨Z', s⟩
set_option maxRecDepth 100000 in
set_option maxHeartbeats 16000000 in
theorem shards_calls (v : Value) (l : List (List UInt8)) (hl : l.length ≤ 60) (hln : ∀ b ∈ l, b.length ≤ 1000) (out : Int) (w : World) (hr : BRd B w0 R v l) (s : St B w0 w R) :
    Calls Try.prog 36 #[v, .int .u64 out] w fun e w' => ∃ A Bv hs, e = .returned (.tuple #[A, Bv]) ∧ hs.length = l.length ∧ HK (fun i => decide (bits .and .u64 (out / 2 ^ i) 1 = 1)) hs ∧
      St B w0 w' (sh A hs (fun i => decide (bits .and .u64 (out / 2 ^ i) 1 = 1)) l * (row 116 2 Bv l.length (cs (fun i => decide (bits .and .u64 (out / 2 ^ i) 1 = 1)) l l.length) * R)) := by
  obtain ⟨F, hF⟩ : ∃ F : Nat → Bool, F = fun i => decide (bits .and .u64 (out / 2 ^ i) 1 = 1) := ⟨_, rfl⟩
  rw [← hF]
  have HF := Lib.hid hF
  clear hF
  obtain ⟨Ar, cr, us, rfl, hul, hr1, hr2, hr3, hr4, hr5⟩ := hr
  have HR := Lib.hid (And.intro hul (And.intro hr4 hr5))
  have HN := Lib.hid hln
  clear hul hr4 hr5 hr1 hr2 hr3 hln
  have S := Lib.hid ((s.rowNil 116 2).rowNil 32 1)
  clear s
  go_enter Try.func36, Try.ntmps36
  go_wp2_with fail
  go_loopw [6, 7, 8] (fun A Bv ii wr => ∃ (i : Nat) (hs : List Value), i ≤ l.length ∧ ii = .int .i64 (i : Int) ∧ hs.length = i ∧ HK F hs ∧ St B w0 wr (row 32 1 A i hs * (rows 5 hs (tl F l i) * (row 116 2 Bv i (cs F l i) * R)))) (fun _ _ ii _ => l.length - (intOf ii).toNat)
  case atStart => exact ⟨0, [], Nat.zero_le _, rfl, rfl, HK.nil F, S.out.eq (by show _ = row 32 1 _ 0 [] * (emp * _); rw [emp_sep]; rfl)⟩
  case round =>
    obtain ⟨i, hs, hi, rfl, hhl, hhk, s1⟩ := hrel
    clear S
    have HHS := Lib.hid (And.intro hhl hhk)
    obtain ⟨a6, c6, rfl, -⟩ := s1.rowSlice
    obtain ⟨a7, c7, rfl, -⟩ := (s1.eq (Q := row 116 2 _ i (cs F l i) * (row 32 1 (.slice a6 i c6) i hs * (rows 5 hs (tl F l i) * R))) (by ac_rfl)).rowSlice
    clear hhl hhk
    by_cases hlt : i < l.length
    · have hltI : (i : Int) < (l.length : Int) := by omega
      have HT := Lib.hid (And.intro (tl_succ F l i) (cs_succ F l i))
      have HTL := Lib.hid (tl_len F l i)
      generalize tl F l i = TL at *
      generalize cs F l i = CS at *
      by_cases hf : F i = true
      · have hb : bits .and .u64 (out / 2 ^ i) 1 = 1 := by have := hf; rw [HF.out] at this; exact of_decide_eq_true this
        have HFi := Lib.hid hf
        clear hf
        have S4 := Lib.hid ((s1.alloc (.cells #[.slice none 0 0] 32)).eq (sep_left_comm _ _ _))
        have hrd := Lib.hid (Rd.new wr #[.slice none 0 0] 32)
        clear s1
        go_wp2_with (first
          | (((have q := S4); clear q); at_builtin; go_must (refine wpl_append rfl _ _ rfl tBB S4.out (some ⟨wr.heap.size, 0, none⟩) 1 1 [.slice none 0 0] rfl rfl hrd.out (fun e => by cases e) (by simp) (by simp [Value.oneCell']) (by unfold maxLen; omega) (by omega) ?_); intro v5 w5 s5 _; have S5 := Lib.hid (((s5.eq (sep_left_comm _ _ _)).right.alloc (.cells #[str [], .bool false] 116)).eq (Q := row 116 2 (.slice a7 i c7) i CS * (pts w5.heap.size (.cells #[str [], .bool false] 116) * (row 32 1 v5 (i + 1) (hs ++ [.slice none 0 0]) * (rows 5 hs TL * R)))) (by ac_rfl)); have hrd2 := Lib.hid (Rd.new w5 #[str [], .bool false] 116); clear s5 S4 hrd)
          | (((have q := S5); clear q); at_builtin; go_must (refine wpl_append rfl _ _ rfl tSh S5.out (some ⟨w5.heap.size, 0, none⟩) 1 1 [str [], .bool false] rfl rfl hrd2.out (fun e => by cases e) rfl (by simp [Value.oneCell']) (by unfold maxLen; omega) (by omega) ?_); intro v6 w6 s6 _; have S6 := Lib.hid (s6.eq (sep_left_comm _ _ _)).right; clear s6 S5 hrd2))
        go_roundw
        case rel =>
          refine ⟨i + 1, hs ++ [.slice none 0 0], by omega, by go_num, by simp [HHS.out.1], HHS.out.2.snoc (by rw [HHS.out.1, HFi.out]; rfl), ?_⟩
          rw [HT.out.1, HT.out.2, rows_snoc _ _ _ _ _ (by rw [HTL.out]; exact HHS.out.1)]
          simp only [c2, HFi.out, if_true]
          exact (S6.out.rowNil 5 1).eq (by show _ = _ * (rows _ _ _ * row 5 1 (.slice none 0 0) 0 [] * _); ac_rfl)
        case measure => simp [intOf]; omega
      · have hb : ¬ bits .and .u64 (out / 2 ^ i) 1 = 1 := by intro e; apply hf; rw [HF.out]; exact decide_eq_true e
        have HFi := Lib.hid (show F i = false from by simpa using hf)
        clear hf
        have hmem : l[i] ∈ l := List.getElem_mem hlt
        obtain ⟨ui, hui, hri⟩ := HR.out.2.2 i hlt
        have hget : l.getD i [] = l[i] := by simp [List.getD, hlt]
        have hn1 := HN.out _ hmem
        generalize l[i] = b at *
        have hri0 := hri wr (row 32 1 (.slice a6 i c6) i hs * (rows 5 hs TL * row 116 2 (.slice a7 i c7) i CS)) (s1.eq (by ac_rfl))
        obtain ⟨ai, ci, rfl, -⟩ := hri0
        have hrdA := HR.out.2.1 wr (row 32 1 (.slice a6 i c6) i hs * (rows 5 hs TL * row 116 2 (.slice a7 i c7) i CS)) (s1.eq (by ac_rfl))
        obtain ⟨bA, oA, rfl, -⟩ := hrdA.at (by rintro rfl; simp at hui)
        have HC := Lib.hid (show ∀ w H, St B w0 w (H * R) → w.cell? ⟨bA, oA + i, none⟩ = some (.slice ai b.length ci) ∧ BS w (.slice ai b.length ci) b from fun w H s => by
          refine ⟨?_, hri w H s⟩
          obtain ⟨b1, o1, e1, hc1⟩ := (HR.out.2.1 w H s).at (by rintro rfl; simp at hui)
          cases e1
          exact hc1 i _ hui)
        have HM := Lib.hid (And.intro hget hn1)
        have hnB : b.length ≤ 1000 := hn1
        clear hmem hui hri hget hn1
        have S4 := Lib.hid s1
        clear s1
        go_wp2_with fail
        refine wp_region_rv [34, 39, 9] (PJ B w0 (row 32 1 (.slice a6 i c6) i hs * (rows 5 hs TL * (row 116 2 (.slice a7 i c7) i CS * R))) (MF b.length) (MH b (row 32 1 (.slice a6 i c6) i hs * (rows 5 hs TL * (row 116 2 (.slice a7 i c7) i CS * R))))) [6, 11, 12] Gf.mixed (by kernel_rfl) (by kernel_rfl) (by kernel_rfl) (fun _ => S4.out.drew) ?_
        refine RXl.exact (.slice (some ⟨bA, oA, none⟩) l.length cr) rfl rfl rfl rfl rfl (fun _ _ _ _ _ => rfl) ?_
        refine RXl.exact (.int .i64 (i : Int)) rfl rfl rfl rfl rfl (fun _ _ _ _ _ => rfl) ?_
        refine RXl.exact (.pointer (some ⟨bA, oA + i, none⟩)) rfl rfl rfl rfl rfl (fun j τ w' hj hJ => (by obtain ⟨vs, hv, hJ⟩ := hJ; exact (by simp [rho, upd, Spec.val, execOp, go_sem, hltI]))) ?_
        refine RXl.exact (.slice ai b.length ci) rfl rfl rfl rfl rfl (fun j τ w' hj hJ => (by obtain ⟨vs, hv, hJ⟩ := hJ; exact (by obtain ⟨Z, q⟩ := MJ_x hJ; have c := (HC.out _ (Z * (row 32 1 (.slice a6 i c6) i hs * (rows 5 hs TL * row 116 2 (.slice a7 i c7) i CS))) (q.eq (by ac_rfl))).1; simp [rho, upd, Spec.val, execOp, go_sem, c]))) ?_
        refine RXl.exact (.int .i64 (b.length : Int)) rfl rfl rfl rfl rfl (fun j τ w' hj hJ => (by obtain ⟨vs, hv, hJ⟩ := hJ; exact (by simp [rho, upd, Spec.val, execOp, go_sem, resolve, invoke, builtin]))) ?_
        refine RXl.exact (.int .i64 ((b.length + 1 : Nat) : Int)) rfl rfl rfl rfl rfl (fun j τ w' hj hJ => (by obtain ⟨vs, hv, hJ⟩ := hJ; exact (by simp [rho, upd, Spec.val, execOp, go_sem]; rw [IntKind.wrap_i64]; omega))) ?_
        refine RXl.effV 0 34 rfl rfl rfl (Nat.le_of_ble_eq_true rfl) rfl rfl rfl rfl (PJ.firstOp (fun ρ w hag s => by obtain ⟨r1, r2⟩ := run_makeSlice_st (P := Try.prog) tB .i64 .i64 0 (b.length + 1) (Nat.zero_le _) (by unfold maxLen; omega) (by omega) s; exact ⟨(w.heap.size, 0, 0), w.alloc (.cells (madeCells (Value.int .u8 0).cells ((b.length + 1) * 1)) 5), by have e := hag.ex 33 _ rfl rfl rfl; have r1' := r1; simp only [Int.natCast_zero, Int.natCast_add, Int.natCast_one, Nat.mul_one] at r1'; simp [execOp, e, hag.2.1, r1', Result.andThen, MF], r2.rowMk (Nat.zero_le _) (by unfold maxLen; omega) (by simp [size_madeCells]) (by simp)⟩)) ?_
        refine RXl.exact (.slice (some ⟨bA, oA, none⟩) l.length cr) rfl rfl rfl rfl rfl (fun _ _ _ _ _ => rfl) ?_
        refine RXl.exact (.int .i64 (i : Int)) rfl rfl rfl rfl rfl (fun _ _ _ _ _ => rfl) ?_
        refine RXl.exact (.pointer (some ⟨bA, oA + i, none⟩)) rfl rfl rfl rfl rfl (fun j τ w' hj hJ => (by obtain ⟨vs, hv, hJ⟩ := hJ; exact (by simp [rho, upd, Spec.val, execOp, go_sem, hltI]))) ?_
        refine RXl.exact (.slice ai b.length ci) rfl rfl rfl rfl rfl (fun j τ w' hj hJ => (by obtain ⟨vs, hv, hJ⟩ := hJ; exact (by obtain ⟨Z, q⟩ := MJ_x hJ; have c := (HC.out _ (Z * (row 32 1 (.slice a6 i c6) i hs * (rows 5 hs TL * row 116 2 (.slice a7 i c7) i CS))) (q.eq (by ac_rfl))).1; simp [rho, upd, Spec.val, execOp, go_sem, c]))) ?_
        refine RXl.effV 1 39 rfl rfl rfl (Nat.le_of_ble_eq_true rfl) rfl rfl rfl rfl (PJ.eff (fun ρ a w h hag s => by have e := h 0 34 (by decide) rfl; have e2 := hag.ex 38 _ rfl rfl rfl; have s' : St B w0 w (row 5 1 (.slice (some ⟨a.1, 0, none⟩) 0 (b.length + 1)) 0 [] * (row 32 1 (.slice a6 i c6) i hs * (rows 5 hs TL * (row 116 2 (.slice a7 i c7) i CS * R)))) := s; have q := (HC.out w (row 5 1 (.slice (some ⟨a.1, 0, none⟩) 0 (b.length + 1)) 0 [] * (row 32 1 (.slice a6 i c6) i hs * (rows 5 hs TL * row 116 2 (.slice a7 i c7) i CS))) (s'.eq (by ac_rfl))).2; obtain ⟨g', c', w', r1, r2⟩ := run_append_nn b hnB s' 32 ai ci q; exact ⟨(a.1, g', c'), w', (by simp [execOp, resolve, invoke, builtin, e, e2, MF, r1, Result.andThen]), (fun k hk => (by match k, hk with | 0, _ => rfl)), r2⟩)) ?_
        refine RXl.effV 2 9 rfl rfl rfl (Nat.le_of_ble_eq_true rfl) rfl rfl rfl rfl (PJ.pass rfl (fun ρ a w h hag s => by have e := h 1 39 (by decide) rfl; exact (exec_assign rfl).trans (by rw [e]; rfl))) ?_
        refine RXl.nilV _ (AgrL.unk 9 _ rfl (AgrL.unk 39 _ rfl (AgrL.upd _ _ (AgrL.upd _ _ (AgrL.upd _ _ (AgrL.upd _ _ (AgrL.unk 34 _ rfl (AgrL.upd _ _ (AgrL.upd _ _ (AgrL.upd _ _ (AgrL.upd _ _ (AgrL.upd _ _ (AgrL.upd _ _ (AgrL.base _)))))))))))))) (by decide) (by decide) fun vs w8 hJ => ?_
        simp only [puts, Act.put, List.setIfInBounds_toArray, List.set_cons_succ, List.set_cons_zero]
        obtain ⟨⟨gq, aq, cq⟩, hv, s9⟩ := hJ
        rw [show vs 0 = MF b.length 0 (gq, aq, cq) from hv 0 (by decide), show vs (0 + 1) = .slice (some ⟨aq, 0, none⟩) b.length cq from hv 1 (by decide), show vs (0 + 1 + 1) = .slice (some ⟨aq, 0, none⟩) b.length cq from hv 2 (by decide)]
        generalize MF b.length 0 (gq, aq, cq) = y0
        clear hv S4
        have s9 : St B w0 w8 (row 5 1 (.slice (some ⟨aq, 0, none⟩) b.length cq) b.length (bvs b) * (row 32 1 (.slice a6 i c6) i hs * (rows 5 hs TL * (row 116 2 (.slice a7 i c7) i CS * R)))) := s9
        have S9 := Lib.hid (s9.eq (Q := row 32 1 (.slice a6 i c6) i hs * (row 116 2 (.slice a7 i c7) i CS * (row 5 1 (.slice (some ⟨aq, 0, none⟩) b.length cq) b.length (bvs b) * (rows 5 hs TL * R)))) (by ac_rfl))
        clear s9
        obtain ⟨Z, hZ⟩ : ∃ Z, row 5 1 (.slice (some ⟨aq, 0, none⟩) b.length cq) b.length (bvs b) * (rows 5 hs TL * R) = Z := ⟨_, rfl⟩
        rw [hZ] at S9
        have HC2 := Lib.hid (show ∀ w H, St B w0 w (H * Z) → w.cell? ⟨bA, oA + i, none⟩ = some (.slice ai b.length ci) ∧ BS w (.slice ai b.length ci) b from fun w H s => by
          subst hZ
          exact HC.out w (H * (row 5 1 (.slice (some ⟨aq, 0, none⟩) b.length cq) b.length (bvs b) * rows 5 hs TL)) (s.eq (by ac_rfl)))
        have HZ := Lib.hid hZ
        clear hZ HC
        go_wp2_with fail
        refine wp_region_rz (SID B w0 Z (.slice a6 i c6) i hs (.slice (some ⟨aq, 0, none⟩) b.length cq) (.slice a7 i c7) CS [str b, .bool true]) [2, 3, 11, 12, 13, 14] Gf.mixed (by kernel_rfl) (by kernel_rfl) (SID.loc rfl rfl rfl rfl rfl rfl) (SID.start S9.out.drew) ?_
        refine RZl.exact (.slice a6 i c6) rfl rfl rfl rfl rfl (fun _ _ _ _ => rfl) ?_
        refine RZl.exact (.slice (some ⟨aq, 0, none⟩) b.length cq) rfl rfl rfl rfl rfl (fun _ _ _ _ => rfl) ?_
        refine RZl.eff (.so fun _ _ => True) (Free.so _) rfl rfl rfl rfl (fun a' w' D hal hI hsz hag => ?_) ?_
        · have d2 := (hal 2 (by simp)).2 (.inr rfl)
          have d3 := (hal 3 (by simp)).2 (.inl (by kernel_rfl))
          have h2 := SI.s2 hI d2 d3
          have e41 : a'.eval (.tmp 41) = .slice (some ⟨aq, 0, none⟩) b.length cq := hag.ex 41 _ rfl rfl rfl
          refine ⟨_, _, ?_, trivial, SID.put2 (by rw [hsz]; exact Nat.le_of_ble_eq_true rfl) h2⟩
          generalize a'.eval = ρ at e41 ⊢
          simp [execOp, go_sem, e41]
        refine RZl.eff (.so fun _ _ => True) (Free.so _) rfl rfl rfl rfl (fun a' w' D hal hI hsz hag => ?_) ?_
        · have d3 := (hal 3 (by simp)).2 (.inr rfl)
          have d2 := (hal 2 (by simp)).1 (by kernel_rfl)
          have d13 := (hal 13 (by simp)).2 (.inl (by kernel_rfl))
          obtain ⟨v, w2', hr, h2⟩ := SI.s3 38 (by omega) rfl hI d2 d3 d13
          have e40 : a'.eval (.tmp 40) = .slice a6 i c6 := hag.ex 40 _ rfl rfl rfl
          have e42 : a'.eval (.tmp 42) = slotsOf a' 42 := rfl
          refine ⟨v, w2', ?_, trivial, SID.put3 (by rw [hsz]; exact Nat.le_of_ble_eq_true rfl) h2⟩
          generalize a'.eval = ρ at e40 e42 ⊢
          generalize slotsOf a' 42 = u42 at e42 hr
          simp [execOp, resolve, invoke, builtin, e40, e42, hr, Result.andThen]
        refine RZl.exact (.slice a7 i c7) rfl rfl rfl rfl rfl (fun _ _ _ _ => rfl) ?_
        refine RZl.exact (.slice (some ⟨bA, oA, none⟩) l.length cr) rfl rfl rfl rfl rfl (fun _ _ _ _ => rfl) ?_
        refine RZl.exact (.int .i64 (i : Int)) rfl rfl rfl rfl rfl (fun _ _ _ _ => rfl) ?_
        refine RZl.exact (.pointer (some ⟨bA, oA + i, none⟩)) rfl rfl rfl rfl rfl (fun _ _ _ _ => by simp [rho, upd, Spec.val, execOp, go_sem, hltI]) ?_
        refine RZl.exact (.slice ai b.length ci) rfl rfl rfl rfl rfl (fun _ _ _ hI => by obtain ⟨H, q⟩ := SI.z hI; have c := (HC2.out _ H q).1; simp [rho, upd, Spec.val, execOp, go_sem, c]) ?_
        refine RZl.exact (str b) rfl rfl rfl rfl rfl (fun _ _ _ hI => by obtain ⟨H, q⟩ := SI.z hI; exact exec_convert rfl (run_str Try.underlying32 Try.underlying5 Try.underlying9 (HC2.out _ H q).2)) ?_
        refine RZl.exact (.agg #[str b, .bool true]) rfl rfl rfl rfl rfl (fun _ _ _ hI => by simp [rho, upd, Spec.val, execOp, go_sem]) ?_
        refine RZl.eff (.so fun _ _ => True) (Free.so _) rfl rfl rfl rfl (fun a' w' D hal hI hsz hag => ?_) ?_
        · have d11 := (hal 11 (by simp)).2 (.inr rfl)
          have d12 := (hal 12 (by simp)).2 (.inl (by kernel_rfl))
          have h2 := SI.s11 hI d11 d12
          have e50 : a'.eval (.tmp 50) = .agg #[str b, .bool true] := hag.ex 50 _ rfl rfl rfl
          refine ⟨_, _, ?_, trivial, SID.put11 (by rw [hsz]; exact Nat.le_of_ble_eq_true rfl) h2⟩
          generalize a'.eval = ρ at e50 ⊢
          simp [execOp, go_sem, e50]
        refine RZl.eff (.so fun _ _ => True) (Free.so _) rfl rfl rfl rfl (fun a' w' D hal hI hsz hag => ?_) ?_
        · have d12 := (hal 12 (by simp)).2 (.inr rfl)
          have d11 := (hal 11 (by simp)).1 (by kernel_rfl)
          have d14 := (hal 14 (by simp)).2 (.inl (by kernel_rfl))
          obtain ⟨v, w2', hr, h2⟩ := SI.s12 63 (by omega) rfl (by simp [Value.oneCell']) hI d11 d12 d14
          have e44 : a'.eval (.tmp 44) = .slice a7 i c7 := hag.ex 44 _ rfl rfl rfl
          have e51 : a'.eval (.tmp 51) = slotsOf a' 51 := rfl
          refine ⟨v, w2', ?_, trivial, SID.put12 (by rw [hsz]; exact Nat.le_of_ble_eq_true rfl) h2⟩
          generalize a'.eval = ρ at e44 e51 ⊢
          generalize slotsOf a' 51 = u51 at e51 hr
          simp [execOp, resolve, invoke, builtin, e44, e51, hr, Result.andThen]
        refine RZl.eff (.so fun _ _ => True) (Free.so _) rfl rfl rfl rfl (fun a' w' D hal hI hsz hag => ?_) ?_
        · have d3 := (hal 3 (by simp)).1 (by kernel_rfl)
          have h2 := SI.s13 hI d3
          have e43 : a'.eval (.tmp 43) = slotsOf a' 43 := rfl
          refine ⟨slotsOf a' 43, w', ?_, trivial, SID.put13 (by rw [hsz]; exact Nat.le_of_ble_eq_true rfl) h2⟩
          generalize a'.eval = ρ at e43 ⊢
          simp [execOp, go_sem, e43]
        refine RZl.eff (.so fun _ _ => True) (Free.so _) rfl rfl rfl rfl (fun a' w' D hal hI hsz hag => ?_) ?_
        · have d12 := (hal 12 (by simp)).1 (by kernel_rfl)
          have h2 := SI.s14 hI d12
          have e52 : a'.eval (.tmp 52) = slotsOf a' 52 := rfl
          refine ⟨slotsOf a' 52, w', ?_, trivial, SID.put14 (by rw [hsz]; exact Nat.le_of_ble_eq_true rfl) h2⟩
          generalize a'.eval = ρ at e52 ⊢
          simp [execOp, go_sem, e52]
        refine RZl.nilL [42, 43, 51, 52, 6, 7] _ (AgrL.unk 7 _ rfl (AgrL.unk 6 _ rfl (AgrL.unk 52 _ rfl (AgrL.unk 51 _ rfl (AgrL.upd _ _ (AgrL.upd _ _ (AgrL.upd _ _ (AgrL.upd _ _ (AgrL.upd _ _ (AgrL.upd _ _ (AgrL.upd _ _ (AgrL.unk 43 _ rfl (AgrL.unk 42 _ rfl (AgrL.upd _ _ (AgrL.upd _ _ (AgrL.base _)))))))))))))))) (by decide) (by intro d hd; simp at hd; rcases hd with rfl | rfl | rfl | rfl | rfl | rfl <;> exact Nat.le_of_ble_eq_true rfl) fun vs2 τ w9 hvs hI => ?_
        simp only [puts, Act.put, List.setIfInBounds_toArray, List.set_cons_succ, List.set_cons_zero]
        have s10 := SI.fin hI
        rw [hvs 4 6 rfl, hvs 5 7 rfl] at s10
        have S10 := Lib.hid s10
        clear s10 hI hvs S9
        go_wp2_with fail
        go_roundw
        case rel =>
          refine ⟨i + 1, hs ++ [.slice (some ⟨aq, 0, none⟩) b.length cq], by omega, by go_num, by simp [HHS.out.1], HHS.out.2.snoc (by rw [HHS.out.1, HFi.out]; exact ⟨aq, b.length, cq, rfl⟩), ?_⟩
          · rw [HT.out.1, HT.out.2, rows_snoc _ _ _ _ _ (by rw [HTL.out]; exact HHS.out.1)]
            simp only [c2, HFi.out, Bool.false_eq_true, if_false, HM.out.1]
            exact S10.out.eq (by rw [← HZ.out]; ac_rfl)
        case measure => simp [intOf]; omega
    · obtain rfl : i = l.length := by omega
      have S1 := Lib.hid s1
      clear s1
      go_wp2_with fail
      go_ret2
      exact ⟨_, _, hs, rfl, HHS.out.1, HHS.out.2, S1.out.eq (by unfold sh; ac_rfl)⟩
end
end Go.Proofs.Ytjnfhppjkadlpaa.Shd
