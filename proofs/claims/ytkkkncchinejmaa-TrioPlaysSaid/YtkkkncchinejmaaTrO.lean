/- Package trio, walked: Open, Mend. No condition. -/
import Derived.Test.YtkkkncchinejmaaTrA
import Derived.Test.YtkkkncchinejmaaRez
namespace Go.Proofs.Ytkkkncchinejmaa.TrW
open Go Go.RowKit Go.Proofs.Ytkkkncchinejmaa Go.Proofs.Ytkkkncchinejmaa.Sp Go.Proofs.Ytkkkncchinejmaa.Reg Go.Proofs.Ytkkkncchinejmaa.SlW Go.Proofs.Ytkkkncchinejmaa.Fus Go.Proofs.Ytkkkncchinejmaa.TrM Go.Proofs.Ytkkkncchinejmaa.TapW
theorem cntIn_pre (a : List (List UInt8)) : ∀ (l : List (List (List UInt8))) (best : List (List UInt8)), cntIn a l best = best ∨ ∃ k, cntIn a l best = a.take k
  | [], best => .inl rfl
  | b :: l, best => by
    rw [cntIn_cons]
    split
    · rcases cntIn_pre a l (a.take (al a b)) with h | h
      · exact .inr ⟨_, h⟩
      · exact .inr h
    · exact cntIn_pre a l best
theorem cntGo_pre : ∀ (rest seen : List (List (List UInt8))) (best : List (List UInt8)), cntGo seen rest best = best ∨ ∃ a ∈ rest, ∃ k, cntGo seen rest best = a.take k
  | [], _, _ => .inl rfl
  | a :: rest, seen, best => by
    show cntGo (seen ++ [a]) rest (cntIn a seen best) = best ∨ _
    rcases cntGo_pre rest (seen ++ [a]) (cntIn a seen best) with h | ⟨c, hc, k, h⟩
    · rcases cntIn_pre a seen best with h2 | ⟨k, h2⟩
      · exact .inl (h.trans h2)
      · exact .inr ⟨a, by simp, k, h.trans h2⟩
    · exact .inr ⟨c, by simp [hc], k, h⟩
theorem cnt_pre (L : List (List (List UInt8))) : cnt L = [] ∨ ∃ a ∈ L, ∃ k, cnt L = a.take k := cntGo_pre L [] []
theorem jn_take_le (l : List (List UInt8)) (k : Nat) : (jn (l.take k)).length ≤ (jn l).length := by
  conv => rhs; rw [← List.take_append_drop k l]
  rw [jn_append, List.length_append]; omega
theorem jn_len_le : ∀ l : List (List UInt8), l.length ≤ (jn l).length
  | [] => Nat.le_refl _
  | a :: l => by rw [jn_cons, List.length_append, jn1_len, List.length_cons]; have := jn_len_le l; omega
theorem spl_len (b : List UInt8) : (jn (spl b)).length ≤ b.length := by
  obtain ⟨t, h, -⟩ := spl_rest b
  have := congrArg List.length h
  rw [List.length_append] at this
  omega
/-- What counts: its records may be, and are no longer than a tape. -/
theorem cnt_ok (Ts : List Tp) (L : List Nat) (hT : ∀ T ∈ Ts, T.b.length ≤ 65536) : (∀ r ∈ cnt (rcs Ts L), okr r) ∧ (jn (cnt (rcs Ts L))).length ≤ 65536 := by
  rcases cnt_pre (rcs Ts L) with h | ⟨a, ha, k, h⟩
  · rw [h]; exact ⟨by simp, by simp [jn]⟩
  · obtain ⟨i, -, rfl⟩ := List.mem_map.1 ha
    rw [h]
    refine ⟨fun r hr => spl_ok (List.mem_of_mem_take hr), Nat.le_trans (jn_take_le _ k) (Nat.le_trans (spl_len _) ?_)⟩
    by_cases hi : i < Ts.length
    · rw [show Ts.getD i Tp.new = Ts[i] by simp [List.getD, hi]]
      exact hT _ (List.getElem_mem hi)
    · rw [show Ts.getD i Tp.new = Tp.new by simp [List.getD, List.getElem?_eq_none (Nat.le_of_not_lt hi)]]
      exact Nat.zero_le _
theorem trx_eq (b : Nat) (x : Option Addr) (p0 p1 p2 n : Nat) (Ts : List Tp) (F : Option Fu) : trx b x [p0, p1, p2] n Ts F = tro b p0 p1 p2 n * (tps x [p0, p1, p2] Ts * fz (.pointer x) F) := rfl
section
variable {B : Nat} {w0 : World} {R : HP}
theorem tps_ok (x : Option Addr) : ∀ (ps : List Nat) (Ts : List Tp) {R : HP} {w : World}, ps.length = Ts.length → St B w0 w (tps x ps Ts * R) → ∀ T ∈ Ts, T.ok
  | [], [], _, _, _, _, T, h => by cases h
  | p :: ps, U :: Ts, R, w, hl, s, T, h => by
    have s1 : St B w0 w (tp (pp p) (.pointer x) U * (tps x ps Ts * R)) := s.eq (sep_assoc _ _ _)
    rcases List.mem_cons.1 h with rfl | h
    · obtain ⟨-, -, -, hok, -⟩ := tp_open s1
      exact hok
    · exact tps_ok x ps Ts (by simpa using hl) s1.right T h
def opK : Option Fu → List Tp → List Nat → List (List UInt8) → Int × Option Fu × List Tp
  | F, Ts, [], _ => (0, F, Ts)
  | F, Ts, i :: is, best =>
    if (Ts.getD i Tp.new).b = jn best then opK F Ts is best
    else if (tWrite F (Ts.getD i Tp.new) (jn (best.take (al (spl (Ts.getD i Tp.new).b) best))).length (jn best)).1 = 0 then
      opK (tWrite F (Ts.getD i Tp.new) (jn (best.take (al (spl (Ts.getD i Tp.new).b) best))).length (jn best)).2.1 (Ts.set i (tWrite F (Ts.getD i Tp.new) (jn (best.take (al (spl (Ts.getD i Tp.new).b) best))).length (jn best)).2.2) is best
    else ((tWrite F (Ts.getD i Tp.new) (jn (best.take (al (spl (Ts.getD i Tp.new).b) best))).length (jn best)).1, (tWrite F (Ts.getD i Tp.new) (jn (best.take (al (spl (Ts.getD i Tp.new).b) best))).length (jn best)).2.1, Ts.set i (tWrite F (Ts.getD i Tp.new) (jn (best.take (al (spl (Ts.getD i Tp.new).b) best))).length (jn best)).2.2)
/-- The records that count. -/
def best (Ts : List Tp) : List (List UInt8) := cnt (rcs Ts (lvi Ts))
/-- What Open gives: it is there. -/
def OpYes (B : Nat) (w0 : World) (x : Option Addr) (ps : List Nat) (Ts : List Tp) (F : Option Fu) (recs : List (List UInt8)) (R : HP) (e : Ending) (w' : World) : Prop :=
  ∃ X b v vs, e = .returned (.tuple #[pp b, v, .int .i64 0]) ∧ BRd B w0 X v vs recs ∧ St B w0 w' (X * (trx b x ps recs.length Ts F * R))
/-- What Open gives: an error. -/
def OpNo (B : Nat) (w0 : World) (x : Option Addr) (ps : List Nat) (Ts : List Tp) (F : Option Fu) (n : Int) (R : HP) (e : Ending) (w' : World) : Prop :=
  e = .returned (.tuple #[.pointer none, .slice none 0 0, .int .i64 n]) ∧ St B w0 w' (tps x ps Ts * (fz (.pointer x) F * R))
def OpP (B : Nat) (w0 : World) (x : Option Addr) (ps : List Nat) (Ts : List Tp) (F : Option Fu) (R : HP) (e : Ending) (w' : World) : Prop :=
  if (lvi Ts).length < 2 then OpNo B w0 x ps Ts F 8 R e w'
  else if (opK F Ts (lvi Ts) (best Ts)).1 = 0 then OpYes B w0 x ps (opK F Ts (lvi Ts) (best Ts)).2.2 (opK F Ts (lvi Ts) (best Ts)).2.1 (best Ts) R e w'
  else OpNo B w0 x ps (opK F Ts (lvi Ts) (best Ts)).2.2 (opK F Ts (lvi Ts) (best Ts)).2.1 (opK F Ts (lvi Ts) (best Ts)).1 R e w'
theorem brd_row {X : HP} {v v' : Value} {vs : List Value} {l : List (List UInt8)} {w : World} (h : BRd B w0 X v vs l) (s : St B w0 w (row 23 1 v' l.length vs * R)) : BRd B w0 (row 23 1 v' l.length vs * X) v' vs l := by
  obtain ⟨a, c, rfl, h1, h2, h3, -⟩ := s.rowSlice
  refine ⟨⟨a, c, rfl, h1, h2, h3, fun w H s => ?_⟩, h.len, fun w H s => h.at' w (H * row 23 1 (.slice a l.length c) l.length vs) (s.eq (sep_assoc _ _ _).symm)⟩
  exact (s.eq (sep_left_comm _ _ _)).rowRd
/-- Where the end of Open stands. -/
def OpI (B : Nat) (w0 : World) (p0 p1 p2 n : Nat) (vs : List Value) (S0 : HP) (D : Nat → Bool) (τ : Nat → Value) (w : World) : Prop :=
  ∃ g v', (D 4 = true → τ 61 = pp g) ∧ (D 6 = true → τ 63 = v') ∧ (D 7 = true → τ 2 = pp g) ∧ (D 8 = true → τ 3 = v') ∧
    St B w0 w ((if D 4 = true then tro g p0 p1 p2 n else emp) * ((if D 6 = true then row 23 1 v' n vs else emp) * S0))
theorem OpI_start {p0 p1 p2 n : Nat} {vs : List Value} {S0 : HP} {τ : Nat → Value} {w : World} (s : St B w0 w S0) : OpI B w0 p0 p1 p2 n vs S0 (fun _ => false) τ w := by
  refine ⟨0, undef, ?_, ?_, ?_, ?_, ?_⟩
  · intro e; cases e
  · intro e; cases e
  · intro e; cases e
  · intro e; cases e
  · rw [if_neg (by simp), if_neg (by simp), emp_sep, emp_sep]; exact s
theorem OpI_end {p0 p1 p2 n : Nat} {vs : List Value} {S0 : HP} {τ : Nat → Value} {w : World} (h : OpI B w0 p0 p1 p2 n vs S0 (fun _ => true) τ w) : ∃ g v', τ 2 = pp g ∧ τ 3 = v' ∧ St B w0 w (tro g p0 p1 p2 n * (row 23 1 v' n vs * S0)) := by
  obtain ⟨g, v', -, -, q3, q4, s⟩ := h
  rw [if_pos rfl, if_pos rfl] at s
  exact ⟨g, v', q3 rfl, q4 rfl, s⟩
theorem OpI_loc {p0 p1 p2 n : Nat} {vs : List Value} {S0 : HP} {ops : Array Oper} (h61 : (ops[4]?).bind (·.dst) = some 61) (h63 : (ops[6]?).bind (·.dst) = some 63) (h2 : (ops[7]?).bind (·.dst) = some 2) (h3 : (ops[8]?).bind (·.dst) = some 3)
    (D D' : Nat → Bool) (τ τ' : Nat → Value) (w : World) (hD : ∀ e ∈ [4, 6, 7, 8], D e = D' e) (hτ : ∀ e ∈ [4, 6, 7, 8], D e = true → ∀ t, (ops[e]?).bind (·.dst) = some t → τ t = τ' t) (h : OpI B w0 p0 p1 p2 n vs S0 D τ w) : OpI B w0 p0 p1 p2 n vs S0 D' τ' w := by
  obtain ⟨g, v', q1, q2, q3, q4, s⟩ := h
  have d4 := hD 4 (by simp)
  have d6 := hD 6 (by simp)
  have d7 := hD 7 (by simp)
  have d8 := hD 8 (by simp)
  refine ⟨g, v', fun e => ?_, fun e => ?_, fun e => ?_, fun e => ?_, by rw [← d4, ← d6]; exact s⟩
  · rw [← d4] at e; rw [← hτ 4 (by simp) e 61 h61]; exact q1 e
  · rw [← d6] at e; rw [← hτ 6 (by simp) e 63 h63]; exact q2 e
  · rw [← d7] at e; rw [← hτ 7 (by simp) e 2 h2]; exact q3 e
  · rw [← d8] at e; rw [← hτ 8 (by simp) e 3 h3]; exact q4 e
theorem app_gone (F : Option Fu) (T : Tp) (b : List UInt8) : (tApp F T b).2.2.gone = T.gone := by unfold tApp; repeat (first | split | rfl)
theorem cut_gone (F : Option Fu) (T : Tp) (n : Int) : (tCut F T n).2.2.gone = T.gone := by unfold tCut; repeat (first | split | rfl)
theorem sync_gone (F : Option Fu) (T : Tp) : (tSync F T).2.gone = T.gone := by unfold tSync; repeat (first | split | rfl)
theorem write_gone (F : Option Fu) (T : Tp) (k : Nat) (b : List UInt8) : (tWrite F T k b).2.2.gone = T.gone := by
  unfold tWrite
  split
  · split
    · exact (sync_gone _ _).trans ((app_gone _ _ _).trans (cut_gone _ _ _))
    · exact (app_gone _ _ _).trans (cut_gone _ _ _)
  · exact cut_gone _ _ _
theorem set_gone {Ts : List Tp} {i j : Nat} {T : Tp} (h : T.gone = (Ts.getD i Tp.new).gone) : ((Ts.set i T).getD j Tp.new).gone = (Ts.getD j Tp.new).gone := by
  simp only [List.getD_eq_getElem?_getD, List.getElem?_set] at *
  split
  · rename_i e
    subst e
    split
    · simpa using h
    · rename_i hn
      simp [List.getElem?_eq_none (Nat.le_of_not_lt hn)]
  · rfl
set_option maxRecDepth 100000 in
set_option maxHeartbeats 16000000 in
theorem open_calls (F : Option Fu) (Ts : List Tp) (p0 p1 p2 : Nat) (x : Option Addr) (hT : Ts.length = 3) (w : World) (s : St B w0 w (tps x [p0, p1, p2] Ts * (fz (.pointer x) F * R))) :
    Calls Try.prog 22 #[.agg #[pp p0, pp p1, pp p2]] w (OpP B w0 x [p0, p1, p2] Ts F R) := by
  have hok := tps_ok x [p0, p1, p2] Ts (by rw [hT]; rfl) s
  obtain ⟨hb1, hb2⟩ := cnt_ok Ts (lvi Ts) (fun T hT => (hok T hT).2)
  have hll := lvi_len Ts
  have hlm := fun i => lvi_mem (Ts := Ts) (i := i)
  have s1 := s.alloc (.cells #[pp p0, pp p1, pp p2] 43)
  have c0 := s1.cell 0
  have c1 := s1.cell 1
  have c2 := s1.cell 2
  simp at c0 c1 c2
  have s2 := s1.eq (Q := tps x [p0, p1, p2] Ts * (pts w.heap.size (.cells #[pp p0, pp p1, pp p2] 43) * (fz (.pointer x) F * R))) (by ac_rfl)
  have Q := Lib.hid (lives3 x p0 p1 p2 Ts hT _ s2)
  generalize hbest : cnt (rcs Ts (lvi Ts)) = bs at *
  have hbe : best Ts = bs := hbest
  by_cases h2 : (lvi Ts).length < 2
  · have E := Lib.hid (fun e w' => (show OpP B w0 x [p0, p1, p2] Ts F R e w' = OpNo B w0 x [p0, p1, p2] Ts F 8 R e w' by unfold OpP; rw [if_pos h2]))
    generalize hL : lvi Ts = L at *
    have h2' : (L.length : Int) < 2 := by omega
    have HT := Lib.hid hT
    have Hlm := Lib.hid hlm
    have Hb1 := Lib.hid hb1
    have Hbest := Lib.hid hbest
    have Hbe := Lib.hid hbe
    have Hok := Lib.hid hok
    have HL := Lib.hid hL
    clear hT hlm hb1 hbest hbe hok hL
    clear s s1 s2 h2
    go_enter Try.func22, Try.ntmps22
    go_wp2_with fail
    refine Q.out.mono ?_
    rintro e w1 ⟨v, rfl, s1⟩
    obtain ⟨av, cv, rfl, -⟩ := s1.rowSlice
    have S1 := Lib.hid s1
    clear s1 Q
    go_wp2_with fail
    go_ret3
    rw [E.out]
    exact ⟨rfl, (S1.out.right.eq (Q := pts w.heap.size (.cells #[pp p0, pp p1, pp p2] 43) * (tps x [p0, p1, p2] Ts * (fz (.pointer x) F * R))) (by ac_rfl)).right⟩
  · have E := Lib.hid (fun e w' => (show OpP B w0 x [p0, p1, p2] Ts F R e w' = if (opK F Ts (lvi Ts) bs).1 = 0 then OpYes B w0 x [p0, p1, p2] (opK F Ts (lvi Ts) bs).2.2 (opK F Ts (lvi Ts) bs).2.1 bs R e w' else OpNo B w0 x [p0, p1, p2] (opK F Ts (lvi Ts) bs).2.2 (opK F Ts (lvi Ts) bs).2.1 (opK F Ts (lvi Ts) bs).1 R e w' by unfold OpP; rw [if_neg h2, hbe]))
    have h2' : ¬ ((lvi Ts).length : Int) < 2 := by omega
    have qc := fun (v : Value) (w : World) => counts_calls (B := B) (w0 := w0) (R := pts w.heap.size (.cells #[pp p0, pp p1, pp p2] 43) * (fz (.pointer x) F * R)) x [p0, p1, p2] Ts (lvi Ts) v w (fun i hi => ⟨(hlm i hi).1, by rw [hT]; exact (hlm i hi).1, (hlm i hi).2⟩) hll
    have qc2 := fun (R : HP) (v : Value) (w : World) => counts_calls (B := B) (w0 := w0) (R := R) x [p0, p1, p2] Ts (lvi Ts) v w (fun i hi => ⟨(hlm i hi).1, by rw [hT]; exact (hlm i hi).1, (hlm i hi).2⟩) hll
    rw [hbest] at qc2
    generalize hL : lvi Ts = L at *
    have Qc := Lib.hid qc2
    have HT := Lib.hid hT
    have Hlm := Lib.hid hlm
    have Hb1 := Lib.hid hb1
    have Hbest := Lib.hid hbest
    have Hbe := Lib.hid hbe
    have Hok := Lib.hid hok
    have HL := Lib.hid hL
    clear hT hlm hb1 hbest hbe hok hL
    clear s s1 s2 h2 qc qc2
    go_enter Try.func22, Try.ntmps22
    go_wp2_with fail
    refine Q.out.mono ?_
    rintro e w1 ⟨v, rfl, s1⟩
    obtain ⟨av, cv, rfl, -⟩ := s1.rowSlice
    have Qd := Lib.hid (Qc.out _ _ w1 s1)
    clear s1 Q Qc c0 c1 c2
    go_wp2_with fail
    refine Qd.out.mono ?_
    rintro e w2 ⟨X, v0, vs0, rfl, hbr, s2⟩
    obtain ⟨Ab, cb, rfl, hlb, -⟩ := hbr.val
    have Qj := Lib.hid (joined_calls (hbr.right _) Hb1.out (by omega) w2 s2)
    have Hbr := Lib.hid hbr
    clear hbr s2 Qd
    go_wp2_with fail
    refine Qj.out.mono ?_
    rintro e w3 ⟨a3, c3, rfl, s3⟩
    have S3 := Lib.hid (St.eq (Q := Same (.slice av L.length cv) L x [p0, p1, p2] Ts F (row 5 1 (.slice a3 (jn bs).length c3) (jn bs).length (bvs (jn bs)) * (X * (pts w.heap.size (.cells #[pp p0, pp p1, pp p2] 43) * R)))) (by unfold Same; ac_rfl) s3)
    clear s3 Qj
    go_wp2_with fail
    generalize hnl : (jn bs).length = nl at *
    have Hnl := Lib.hid hnl
    clear hnl
    go_loopw [26] (fun i wr => ∃ (k : Nat) (F' : Option Fu) (Ts' : List Tp), k ≤ L.length ∧ i = .int .i64 k ∧ Ts'.length = 3 ∧ (∀ j ∈ L, (Ts'.getD j Tp.new).gone = false) ∧ opK F Ts L bs = opK F' Ts' (L.drop k) bs ∧ St B w0 wr (Same (.slice av L.length cv) L x [p0, p1, p2] Ts' F' (row 5 1 (.slice a3 nl c3) nl (bvs (jn bs)) * (X * (pts w.heap.size (.cells #[pp p0, pp p1, pp p2] 43) * R))))) (fun i _ => L.length - (intOf i).toNat)
    case atStart => exact ⟨0, F, Ts, Nat.zero_le _, rfl, HT.out, fun j hj => (Hlm.out j hj).2, rfl, S3.out⟩
    case round =>
      obtain ⟨k, F', Ts', hk, rfl, hT', hgn, hop, s1⟩ := hrel
      clear S3
      by_cases hlt : k < L.length
      · obtain ⟨g, rfl, hck⟩ := pick (show St B w0 _ (row 42 1 (.slice av L.length cv) L.length (pv [p0, p1, p2] L) * _) from s1) k hlt
        obtain ⟨hi1, -⟩ := Hlm.out L[k] (List.getElem_mem hlt)
        have hg1 := hgn L[k] (List.getElem_mem hlt)
        rw [drop_at L k hlt] at hop
        generalize hi : L[k] = i at *
        have hi3 : i < Ts'.length := by rw [hT']; exact hi1
        have s2 := same_tp (by simpa using hi1) hi3 s1
        obtain ⟨-, -, -, hok2, -⟩ := tp_open s2
        have hbl := hok2.2
        have HBK := Lib.hid (fun (w' : World) (F'' : Option Fu) (T'' : Tp) (s' : St B w0 w' _) => same_set (v := .slice (some ⟨g, 0, none⟩) L.length cv) (L := L) (x := x) (F' := F'') (T := T'') (Y := row 5 1 (.slice a3 nl c3) nl (bvs (jn bs)) * (X * (pts w.heap.size (.cells #[pp p0, pp p1, pp p2] 43) * R))) (show i < [p0, p1, p2].length by simpa using hi1) hi3 s')
        have HBB := Lib.hid (fun (w' : World) (s' : St B w0 w' _) => same_back (v := .slice (some ⟨g, 0, none⟩) L.length cv) (L := L) (x := x) (F := F') (Y := row 5 1 (.slice a3 nl c3) nl (bvs (jn bs)) * (X * (pts w.heap.size (.cells #[pp p0, pp p1, pp p2] 43) * R))) (show i < [p0, p1, p2].length by simpa using hi1) hi3 s')
        have HSG := Lib.hid (fun (T'' : Tp) (h : T''.gone = (Ts'.getD i Tp.new).gone) (j : Nat) (hj : j ∈ L) => (set_gone (j := j) h).trans (hgn j hj))
        generalize hp : [p0, p1, p2].getD i 0 = p at *
        have hTb : tBytes (Ts'.getD i Tp.new) = (Ts'.getD i Tp.new).b := by unfold tBytes; rw [hg1]; rfl
        have hTe : tErr (Ts'.getD i Tp.new) = 0 := by unfold tErr; rw [hg1]; rfl
        have q := bytes_calls _ _ _ _ s2
        rw [hTb, hTe] at q
        have hop2 : opK F' Ts' (i :: L.drop (k + 1)) bs = if (Ts'.getD i Tp.new).b = jn bs then opK F' Ts' (L.drop (k + 1)) bs
            else if (tWrite F' (Ts'.getD i Tp.new) (jn (bs.take (al (spl (Ts'.getD i Tp.new).b) bs))).length (jn bs)).1 = 0 then
              opK (tWrite F' (Ts'.getD i Tp.new) (jn (bs.take (al (spl (Ts'.getD i Tp.new).b) bs))).length (jn bs)).2.1 (Ts'.set i (tWrite F' (Ts'.getD i Tp.new) (jn (bs.take (al (spl (Ts'.getD i Tp.new).b) bs))).length (jn bs)).2.2) (L.drop (k + 1)) bs
            else ((tWrite F' (Ts'.getD i Tp.new) (jn (bs.take (al (spl (Ts'.getD i Tp.new).b) bs))).length (jn bs)).1, (tWrite F' (Ts'.getD i Tp.new) (jn (bs.take (al (spl (Ts'.getD i Tp.new).b) bs))).length (jn bs)).2.1, Ts'.set i (tWrite F' (Ts'.getD i Tp.new) (jn (bs.take (al (spl (Ts'.getD i Tp.new).b) bs))).length (jn bs)).2.2) := rfl
        rw [hop2] at hop
        generalize hT : Ts'.getD i Tp.new = T at *
        have Q := Lib.hid q
        have HT' := Lib.hid hT'
        have HGN := Lib.hid hgn
        have Hi := Lib.hid hi
        have Hp := Lib.hid hp
        have HT := Lib.hid hT
        have Hg1 := Lib.hid hg1
        clear hi hp hT hg1
        clear s1 s2 q hTb hTe hok2 hop2 hT' hgn
        by_cases hf : T.b = jn bs
        · rw [if_pos hf] at hop
          have hd : decide (T.b = jn bs) = true := decide_eq_true hf
          have Hop := Lib.hid hop
          have Hd := Lib.hid hd
          clear hop hd
          clear hf hi1 hi3
          go_wp2_with fail
          refine Q.out.mono ?_
          rintro e w4 ⟨a4, c4, rfl, s5⟩
          have Qe := Lib.hid (equal_calls (.slice a4 T.b.length c4) (.slice a3 nl c3) T.b (jn bs) w4 s5.bs ((St.eq (Q := row 5 1 (.slice a3 nl c3) nl (bvs (jn bs)) * (X * (pts w.heap.size (.cells #[pp p0, pp p1, pp p2] 43) * R) * (row 5 1 (.slice a4 T.b.length c4) T.b.length (bvs T.b) * (tp (pp p) (.pointer x) T * (fz (.pointer x) F' * (tps x ([p0, p1, p2].eraseIdx i) (Ts'.eraseIdx i) * row 42 1 (.slice (some ⟨g, 0, none⟩) L.length cv) L.length (pv [p0, p1, p2] L))))))) (by ac_rfl) s5).bs))
          have S5 := Lib.hid (HBB.out w4 s5.right)
          clear s5 Q
          go_wp2_with fail
          refine Qe.out.mono ?_
          rintro e w5 ⟨he, rfl⟩
          rw [Hd.out] at he
          subst he
          go_wp2_with fail
          go_roundw
          case rel => exact ⟨k + 1, F', Ts', by omega, by go_num, HT'.out, HGN.out, Hop.out, S5.out⟩
          case measure => simp [intOf]; omega
        · rw [if_neg hf] at hop
          have hd : decide (T.b = jn bs) = false := decide_eq_false hf
          have Hd := Lib.hid hd
          clear hd
          clear hf
          have hmb := (al_le (spl T.b) bs).2
          generalize hal : al (spl T.b) bs = m at *
          have hkl := jn_take_le bs m
          rw [Hnl.out] at hkl
          obtain ⟨A9, c9, e9, -, hsk, hbk⟩ := Hbr.out.take' m hmb
          cases e9
          have hjb : ∀ r ∈ bs.take m, okr r := fun r hr => Hb1.out r (List.mem_of_mem_take hr)
          generalize hW : tWrite F' T (jn (bs.take m)).length (jn bs) = W at *
          have hg9 := write_gone F' T (jn (bs.take m)).length (jn bs)
          rw [hW] at hg9
          obtain ⟨e1, F1, T1⟩ := W
          simp only at hop hg9
          have hkl2 : ((jn (bs.take m)).length : Int) ≤ (nl : Int) := by omega
          have HG9 := Lib.hid (HSG.out T1 hg9)
          have Hal := Lib.hid hal
          have Hbk := Lib.hid hbk
          have Hsk := Lib.hid hsk
          have Hjb := Lib.hid hjb
          have HW := Lib.hid hW
          have Hop := Lib.hid hop
          clear hal hbk hsk hjb hW hop
          clear hi1 hi3 hg9
          go_wp2_with fail
          refine Q.out.mono ?_
          rintro e w4 ⟨a4, c4, rfl, s5⟩
          have Qe := Lib.hid (equal_calls (.slice a4 T.b.length c4) (.slice a3 nl c3) T.b (jn bs) w4 s5.bs ((St.eq (Q := row 5 1 (.slice a3 nl c3) nl (bvs (jn bs)) * (X * (pts w.heap.size (.cells #[pp p0, pp p1, pp p2] 43) * R) * (row 5 1 (.slice a4 T.b.length c4) T.b.length (bvs T.b) * (tp (pp p) (.pointer x) T * (fz (.pointer x) F' * (tps x ([p0, p1, p2].eraseIdx i) (Ts'.eraseIdx i) * row 42 1 (.slice (some ⟨g, 0, none⟩) L.length cv) L.length (pv [p0, p1, p2] L))))))) (by ac_rfl) s5).bs))
          have Qs := Lib.hid (split_calls a4 c4 T.b w4 (reads_right _ reads_row) (by omega) s5)
          clear s5 Q
          go_wp2_with fail
          refine Qe.out.mono ?_
          rintro e w5 ⟨he, rfl⟩
          rw [Hd.out] at he
          subst he
          clear Qe
          go_wp2_with fail
          refine Qs.out.mono ?_
          rintro e w5 ⟨vm, vsm, rfl, hvl, s6⟩
          have Qa := Lib.hid (alike_calls vm (.slice Ab bs.length cb) (spl T.b) bs w5 (ob_bss s6) (Hbr.out.bss (H := ob vm vsm (spl T.b) * (row 5 1 (.slice a4 T.b.length c4) T.b.length (bvs T.b) * (tp (pp p) (.pointer x) T * (fz (.pointer x) F' * (tps x ([p0, p1, p2].eraseIdx i) (Ts'.eraseIdx i) * (row 42 1 (.slice (some ⟨g, 0, none⟩) L.length cv) L.length (pv [p0, p1, p2] L) * (row 5 1 (.slice a3 nl c3) nl (bvs (jn bs)) * (pts w.heap.size (.cells #[pp p0, pp p1, pp p2] 43) * R)))))))) (s6.eq (by ac_rfl))))
          obtain ⟨am, cm, rfl, -⟩ := ob_open s6
          have S6 := Lib.hid s6
          clear s6 Qs hvl
          go_wp2_with fail
          refine Qa.out.mono ?_
          rintro e w6 ⟨he, hadd⟩
          rw [Hal.out] at he
          subst he
          have s6 := S6.out.keep hadd
          have Qj2 := Lib.hid (joined_calls (R := ob (.slice am (spl T.b).length cm) vsm (spl T.b) * (row 5 1 (.slice a4 T.b.length c4) T.b.length (bvs T.b) * (tp (pp p) (.pointer x) T * (fz (.pointer x) F' * (tps x ([p0, p1, p2].eraseIdx i) (Ts'.eraseIdx i) * (row 42 1 (.slice (some ⟨g, 0, none⟩) L.length cv) L.length (pv [p0, p1, p2] L) * (row 5 1 (.slice a3 nl c3) nl (bvs (jn bs)) * (X * (pts w.heap.size (.cells #[pp p0, pp p1, pp p2] 43) * R)))))))))
            (BRd.left _ (BRd.left _ (BRd.left _ (BRd.left _ (BRd.left _ (BRd.left _ (BRd.left _ (BRd.right _ Hbk.out)))))))) Hjb.out (by omega) w6 s6)
          have hsk := Hsk.out
          clear s6 S6 Qa hadd
          go_wp2_with fail
          clear hsk
          refine Qj2.out.mono ?_
          rintro e w7 ⟨a7, c7, rfl, s7⟩
          have q := write_calls F' T (jn (bs.take m)).length (jn bs) p x a3 c3 w7 (R := tps x ([p0, p1, p2].eraseIdx i) (Ts'.eraseIdx i) * (row 42 1 (.slice (some ⟨g, 0, none⟩) L.length cv) L.length (pv [p0, p1, p2] L) * (row 5 1 (.slice a3 nl c3) nl (bvs (jn bs)) * (X * (pts w.heap.size (.cells #[pp p0, pp p1, pp p2] 43) * R))))) (by rw [Hnl.out]; exact reads_left _ (reads_left _ (reads_right _ reads_row))) (by rw [Hnl.out]; omega) (by rw [Hnl.out]; omega) s7.right.right.right
          rw [Hnl.out, HW.out] at q
          have Qw := Lib.hid q
          clear s7 q Qj2
          by_cases hf : e1 = 0
          · subst hf
            have hop := Hop.out
            rw [if_pos rfl] at hop
            have Hop2 := Lib.hid hop
            clear hop
            go_wp2_with fail
            refine Qw.out.mono ?_
            rintro e w8 ⟨rfl, s9⟩
            have S9 := Lib.hid (HBK.out w8 F1 T1 s9)
            clear s9 Qw
            go_wp2_with fail
            go_roundw
            case rel => exact ⟨k + 1, F1, Ts'.set i T1, by omega, by go_num, by rw [List.length_set]; exact HT'.out, HG9.out, Hop2.out, S9.out⟩
            case measure => simp [intOf]; omega
          · have hop := Hop.out
            rw [if_neg hf] at hop
            have hE3 := fun e w' => E.out e w'
            simp only [hop, if_neg hf] at hE3
            have E3 := Lib.hid hE3
            have hf' : (e1 != 0) = true := by simpa using hf
            clear hop hE3 hf
            go_wp2_with fail
            refine Qw.out.mono ?_
            rintro e w8 ⟨rfl, s9⟩
            have S9 := Lib.hid (HBK.out w8 F1 T1 s9)
            clear s9 Qw
            go_wp2_with fail
            go_ret3
            rw [E3.out]
            exact ⟨rfl, ((same_y S9.out).eq (Q := row 5 1 (.slice a3 nl c3) nl (bvs (jn bs)) * (X * (pts w.heap.size (.cells #[pp p0, pp p1, pp p2] 43) * (tps x [p0, p1, p2] (Ts'.set i T1) * (fz (.pointer x) F1 * R))))) (by ac_rfl)).right.right.right⟩
      · obtain rfl : k = L.length := by omega
        rw [List.drop_of_length_le (Nat.le_refl _)] at hop
        have hop : opK F Ts L bs = (0, F', Ts') := hop
        have hE3 := fun e w' => E.out e w'
        simp only [hop, if_true] at hE3
        have s2 : St B w0 _ (pts w.heap.size (.cells #[pp p0, pp p1, pp p2] 43) * (X * (row 5 1 (.slice a3 nl c3) nl (bvs (jn bs)) * (row 42 1 (.slice av L.length cv) L.length (pv [p0, p1, p2] L) * (tps x [p0, p1, p2] Ts' * (fz (.pointer x) F' * R)))))) := s1.eq (by unfold Same; ac_rfl)
        have S2 := Lib.hid s2
        have E3 := Lib.hid hE3
        clear s1 s2 hE3 hop hgn
        generalize hS0 : X * (row 5 1 (.slice a3 nl c3) nl (bvs (jn bs)) * (row 42 1 (.slice av L.length cv) L.length (pv [p0, p1, p2] L) * (tps x [p0, p1, p2] Ts' * (fz (.pointer x) F' * R)))) = Y0 at S2
        have HS0 := Lib.hid hS0
        clear hS0
        generalize w.heap.size = bx at *
        go_wp2_with fail
        refine wp_region_rz (OpI B w0 p0 p1 p2 bs.length vs0 (pts bx (.cells #[pp p0, pp p1, pp p2] 43) * Y0)) [4, 6, 7, 8] mixed (by kernel_rfl) (by kernel_rfl) (OpI_loc rfl rfl rfl rfl) (OpI_start S2.out.drew) ?_
        have cl : ∀ D τ w', OpI B w0 p0 p1 p2 bs.length vs0 (pts bx (.cells #[pp p0, pp p1, pp p2] 43) * Y0) D τ w' → w'.cell? ⟨bx, 0, none⟩ = some (pp p0) ∧ w'.cell? ⟨bx, 1, none⟩ = some (pp p1) ∧ w'.cell? ⟨bx, 2, none⟩ = some (pp p2) := fun D τ w' h => by
          obtain ⟨g, v', -, -, -, -, s⟩ := h
          have s2 := s.right.right
          exact ⟨s2.cell 0, s2.cell 1, s2.cell 2⟩
        refine RZl.exact (.agg #[pp p0, pp p1, pp p2]) rfl rfl rfl rfl rfl (fun D τ w' h => by obtain ⟨c0, c1, c2⟩ := cl D τ w' h; simp [rho, upd, Spec.val, execOp, go_sem, c0, c1, c2]) ?_
        refine RZl.exact (.slice Ab bs.length cb) rfl rfl rfl rfl rfl (fun _ _ _ _ => rfl) ?_
        refine RZl.exact (.int .i64 bs.length) rfl rfl rfl rfl rfl (fun _ _ _ _ => by simp [rho, upd, Spec.val, execOp, go_sem, resolve, invoke, builtin]) ?_
        refine RZl.exact (.agg #[pp p0, pp p1, pp p2, .int .i64 bs.length]) rfl rfl rfl rfl rfl (fun _ _ _ _ => by simp [rho, upd, Spec.val, execOp, go_sem]) ?_
        have hbY : BRd B w0 Y0 (.slice Ab bs.length cb) vs0 bs := by rw [← HS0.out]; exact Hbr.out.right _
        refine RZl.eff (.so fun _ _ => True) (Free.so _) rfl rfl rfl rfl (fun a' w' D hal hI hsz hag => ?_) ?_
        · obtain ⟨g0, v', q1, q2, q3, q4, s⟩ := hI
          have d4 := (hal 4 (by simp)).2 (.inr rfl)
          have d7 := (hal 7 (by simp)).2 (.inl (by kernel_rfl))
          have e60 : a'.eval (.tmp 60) = .agg #[pp p0, pp p1, pp p2, .int .i64 bs.length] := hag.ex 60 _ rfl rfl rfl
          rw [if_neg (by rw [d4]; simp), emp_sep] at s
          refine ⟨pp w'.heap.size, w'.alloc (.cells #[pp p0, pp p1, pp p2, .int .i64 bs.length] 83), ?_, trivial, w'.heap.size, v', fun _ => slotsOf_at _ _ _ (by rw [hsz]; exact Nat.le_of_ble_eq_true rfl), fun e => ?_, fun e => ?_, fun e => ?_, ?_⟩
          · generalize a'.eval = ρ at e60 ⊢
            simp [execOp, go_sem, e60]
          · rw [slotsOf_put _ _ _ _ (by decide)]; exact q2 e
          · have e : D 7 = true := e
            rw [d7] at e; cases e
          · rw [slotsOf_put _ _ _ _ (by decide)]; exact q4 e
          · have q := s.alloc (.cells #[pp p0, pp p1, pp p2, .int .i64 bs.length] 83)
            rw [if_pos (show dset D 4 4 = true from rfl)]
            exact q
        refine RZl.exact (.slice Ab bs.length cb) rfl rfl rfl rfl rfl (fun _ _ _ _ => rfl) ?_
        refine RZl.call (.so fun _ _ => True) (Free.so _) _ [.slice Ab bs.length cb] [.tmp 62] _ rfl rfl rfl rfl rfl rfl (fun _ => rfl) (fun a' w' D hal hI hsz => ?_) ?_
        · obtain ⟨g0, v', q1, q2, q3, q4, s⟩ := hI
          have d6 := (hal 6 (by simp)).2 (.inr rfl)
          have d8 := (hal 8 (by simp)).2 (.inl (by kernel_rfl))
          rw [if_neg (show ¬ D 6 = true by rw [d6]; simp), emp_sep] at s
          refine (sclone_calls (BRd.left _ (BRd.left _ hbY)) (by have := Hb1.out; have h := Hnl.out; have := jn_len_le bs; omega) w' s).mono ?_
          rintro e w2 ⟨v2, rfl, s2, -⟩
          refine ⟨v2, rfl, trivial, g0, v2, fun e => ?_, fun _ => slotsOf_at _ _ _ (by rw [hsz]; exact Nat.le_of_ble_eq_true rfl), fun e => ?_, fun e => ?_, ?_⟩
          · rw [slotsOf_put _ _ _ _ (by decide)]; exact q1 e
          · rw [slotsOf_put _ _ _ _ (by decide)]; exact q3 e
          · have e : D 8 = true := e
            rw [d8] at e; cases e
          · rw [if_pos (show dset D 6 6 = true from rfl)]
            exact s2.eq (sep_left_comm _ _ _)
        refine RZl.eff (.so fun _ _ => True) (Free.so _) rfl rfl rfl rfl (fun a' w' D hal hI hsz hag => ?_) ?_
        · obtain ⟨g0, v', q1, q2, q3, q4, s⟩ := hI
          have d4 := (hal 4 (by simp)).1 (by kernel_rfl)
          have e61 : a'.eval (.tmp 61) = pp g0 := q1 d4
          refine ⟨pp g0, w', ?_, trivial, g0, v', fun e => ?_, fun e => ?_, fun _ => slotsOf_at _ _ _ (by rw [hsz]; exact Nat.le_of_ble_eq_true rfl), fun e => ?_, s⟩
          · generalize a'.eval = ρ at e61 ⊢
            simp [execOp, go_sem, e61]
          · rw [slotsOf_put _ _ _ _ (by decide)]; exact q1 e
          · rw [slotsOf_put _ _ _ _ (by decide)]; exact q2 e
          · rw [slotsOf_put _ _ _ _ (by decide)]; exact q4 e
        refine RZl.eff (.so fun _ _ => True) (Free.so _) rfl rfl rfl rfl (fun a' w' D hal hI hsz hag => ?_) ?_
        · obtain ⟨g0, v', q1, q2, q3, q4, s⟩ := hI
          have d6 := (hal 6 (by simp)).1 (by kernel_rfl)
          have e63 : a'.eval (.tmp 63) = v' := q2 d6
          refine ⟨v', w', ?_, trivial, g0, v', fun e => ?_, fun e => ?_, fun e => ?_, fun _ => slotsOf_at _ _ _ (by rw [hsz]; exact Nat.le_of_ble_eq_true rfl), s⟩
          · generalize a'.eval = ρ at e63 ⊢
            simp [execOp, go_sem, e63]
          · rw [slotsOf_put _ _ _ _ (by decide)]; exact q1 e
          · rw [slotsOf_put _ _ _ _ (by decide)]; exact q2 e
          · rw [slotsOf_put _ _ _ _ (by decide)]; exact q3 e
        refine RZl.exact (.int .i64 0) rfl rfl rfl rfl rfl (fun _ _ _ _ => rfl) ?_
        refine RZl.nilL [61, 63, 2, 3] _ (AgrL.upd _ _ (AgrL.unk 3 _ rfl (AgrL.unk 2 _ rfl (AgrL.unk 63 _ rfl (AgrL.upd _ _ (AgrL.unk 61 _ rfl (AgrL.upd _ _ (AgrL.upd _ _ (AgrL.upd _ _ (AgrL.upd _ _ (AgrL.base _))))))))))) (by decide) (by intro d hd; simp at hd; rcases hd with rfl | rfl | rfl | rfl <;> exact Nat.le_of_ble_eq_true rfl) fun vs τ w9 hvs hI => ?_
        simp only [puts, Act.put, List.setIfInBounds_toArray, List.set_cons_succ, List.set_cons_zero]
        obtain ⟨g, v', e2, e3, s9⟩ := OpI_end hI
        have h2 := (hvs 2 2 rfl).symm.trans e2
        have h3 := (hvs 3 3 rfl).symm.trans e3
        rw [h2, h3]
        have S9 := Lib.hid s9
        clear hI hvs e2 e3 h2 h3 s9 cl hbY S2
        go_wp2_with fail
        go_ret3
        rw [E3.out]
        have s9 := S9.out
        rw [← HS0.out] at s9
        refine ⟨row 23 1 v' bs.length vs0 * X, g, v', vs0, rfl, brd_row Hbr.out (s9.eq (sep_left_comm _ _ _)), ?_⟩
        exact (s9.eq (Q := pts bx (.cells #[pp p0, pp p1, pp p2] 43) * (row 5 1 (.slice a3 nl c3) nl (bvs (jn bs)) * (row 42 1 (.slice av L.length cv) L.length (pv [p0, p1, p2] L) * (row 23 1 v' bs.length vs0 * X * (trx g x [p0, p1, p2] bs.length Ts' F' * R))))) (by rw [trx_eq]; ac_rfl)).right.right.right
end
end Go.Proofs.Ytkkkncchinejmaa.TrW
