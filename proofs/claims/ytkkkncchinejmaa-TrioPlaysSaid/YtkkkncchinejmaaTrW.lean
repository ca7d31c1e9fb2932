/- Package trio, walked: live, lives, New, Tapes, Records, bad, write. No condition. -/
import Derived.Test.YtkkkncchinejmaaTrJ
namespace Go.Proofs.Ytkkkncchinejmaa.TrW
open Go Go.RowKit Go.Proofs.Ytkkkncchinejmaa Go.Proofs.Ytkkkncchinejmaa.Sp Go.Proofs.Ytkkkncchinejmaa.Reg Go.Proofs.Ytkkkncchinejmaa.SlW Go.Proofs.Ytkkkncchinejmaa.Fus Go.Proofs.Ytkkkncchinejmaa.TrM Go.Proofs.Ytkkkncchinejmaa.TapW
theorem tLP : SlT Try.prog 85 42 1 8 (.pointer none) := ⟨Try.underlying85, info_parts (by kernel_rfl), rfl, by decide⟩
abbrev pp (p : Nat) : Value := .pointer (some ⟨p, 0, none⟩)
/-- Tapes, one beside the other. -/
def tps (x : Option Addr) : List Nat → List Tp → HP
  | p :: ps, T :: Ts => tp (pp p) (.pointer x) T * tps x ps Ts
  | _, _ => emp
theorem tps_at (x : Option Addr) : ∀ (ps : List Nat) (Ts : List Tp) (i p : Nat) (T : Tp), ps[i]? = some p → Ts[i]? = some T → tps x ps Ts = tp (pp p) (.pointer x) T * tps x (ps.eraseIdx i) (Ts.eraseIdx i)
  | [], _, i, p, T, h, _ => by simp at h
  | _ :: _, [], i, p, T, _, h => by simp at h
  | q :: ps, U :: Ts, 0, p, T, h1, h2 => by simp at h1 h2; subst h1; subst h2; rfl
  | q :: ps, U :: Ts, i + 1, p, T, h1, h2 => by
    show tp (pp q) (.pointer x) U * tps x ps Ts = _
    rw [tps_at x ps Ts i p T (by simpa using h1) (by simpa using h2)]
    show tp (pp q) (.pointer x) U * (tp (pp p) (.pointer x) T * _) = tp (pp p) (.pointer x) T * (tp (pp q) (.pointer x) U * _)
    exact sep_left_comm _ _ _
theorem tps_set (x : Option Addr) (ps : List Nat) (Ts : List Tp) (i p : Nat) (T : Tp) (h1 : ps[i]? = some p) (h2 : i < Ts.length) : tps x ps (Ts.set i T) = tp (pp p) (.pointer x) T * tps x (ps.eraseIdx i) (Ts.eraseIdx i) := by
  rw [tps_at x ps (Ts.set i T) i p T h1 (by rw [List.getElem?_set_self h2]), List.eraseIdx_set_eq]
section
variable {B : Nat} {w0 w : World} {R : HP} {x : Option Addr} {ps : List Nat} {Ts : List Tp} {i p : Nat} {T : Tp}
theorem tps_out (h1 : ps[i]? = some p) (h2 : Ts[i]? = some T) (s : St B w0 w (tps x ps Ts * R)) : St B w0 w (tp (pp p) (.pointer x) T * (tps x (ps.eraseIdx i) (Ts.eraseIdx i) * R)) := by
  rw [tps_at x ps Ts i p T h1 h2] at s
  exact s.eq (sep_assoc _ _ _)
theorem tps_in (h1 : ps[i]? = some p) (h2 : i < Ts.length) (s : St B w0 w (tp (pp p) (.pointer x) T * (tps x (ps.eraseIdx i) (Ts.eraseIdx i) * R))) : St B w0 w (tps x ps (Ts.set i T) * R) := by
  rw [tps_set x ps Ts i p T h1 h2]
  exact s.eq (sep_assoc _ _ _).symm
theorem tps_back (h1 : ps[i]? = some p) (h2 : Ts[i]? = some T) (s : St B w0 w (tp (pp p) (.pointer x) T * (tps x (ps.eraseIdx i) (Ts.eraseIdx i) * R))) : St B w0 w (tps x ps Ts * R) := by
  rw [tps_at x ps Ts i p T h1 h2]
  exact s.eq (sep_assoc _ _ _).symm
end
section
variable {B : Nat} {w0 : World} {R : HP}
set_option maxHeartbeats 400000 in
theorem live1_calls (T : Tp) (p : Nat) (fv : Value) (w : World) (s : St B w0 w (tp (pp p) fv T * R)) : Calls Try.prog 51 #[pp p] w (RetS B w0 (tp (pp p) fv T * R) (.bool (!T.gone))) := by
  have Q := Lib.hid (live_calls T (pp p) fv w s)
  clear s
  go_enter Try.func51, Try.ntmps51
  go_wp2_with fail
  refine Q.out.mono ?_
  rintro e w1 ⟨rfl, s1⟩
  have S1 := Lib.hid s1
  clear s1 Q
  generalize (!T.gone) = g at *
  go_wp2_with fail
  go_ret
  exact ⟨rfl, S1.out⟩
/-- Which tapes of the first k are live. -/
def lvk (Ts : List Tp) (k : Nat) : List Nat := (List.range k).filter fun i => !(Ts.getD i Tp.new).gone
def lvi (Ts : List Tp) : List Nat := lvk Ts 3
theorem lvk_succ (Ts : List Tp) (k : Nat) : lvk Ts (k + 1) = if (Ts.getD k Tp.new).gone = false then lvk Ts k ++ [k] else lvk Ts k := by
  unfold lvk
  rw [List.range_succ, List.filter_append]
  cases h : (Ts.getD k Tp.new).gone <;> simp [List.filter, h, ← List.getD_eq_getElem?_getD]
theorem lvk_len (Ts : List Tp) (k : Nat) : (lvk Ts k).length ≤ k := by
  have := List.length_filter_le (fun i => !(Ts.getD i Tp.new).gone) (List.range k)
  unfold lvk
  simpa using this
/-- Pointers to tapes, by their places. -/
def pv (ps : List Nat) (l : List Nat) : List Value := l.map fun i => pp (ps.getD i 0)
theorem pv_len (ps l : List Nat) : (pv ps l).length = l.length := List.length_map _
/-- What lives gives. -/
def LvP (B : Nat) (w0 : World) (ps : List Nat) (l : List Nat) (R : HP) (e : Ending) (w' : World) : Prop := ∃ v, e = .returned v ∧ St B w0 w' (row 42 1 v l.length (pv ps l) * R)
set_option maxRecDepth 100000 in
set_option maxHeartbeats 4000000 in
theorem lives_calls (x : Option Addr) (p0 p1 p2 : Nat) (T0 T1 T2 : Tp) (w : World) (s : St B w0 w (tps x [p0, p1, p2] [T0, T1, T2] * R)) :
    Calls Try.prog 41 #[.agg #[pp p0, pp p1, pp p2]] w (LvP B w0 [p0, p1, p2] (lvi [T0, T1, T2]) (tps x [p0, p1, p2] [T0, T1, T2] * R)) := by
  have S := Lib.hid s
  clear s
  go_enter Try.func41, Try.ntmps41
  go_wp2_with fail
  go_loopw [3, 7] (fun v3 i wr => ∃ k : Nat, k ≤ 3 ∧ i = .int .i64 k ∧ St B w0 wr (row 42 1 v3 (lvk [T0, T1, T2] k).length (pv [p0, p1, p2] (lvk [T0, T1, T2] k)) * (tps x [p0, p1, p2] [T0, T1, T2] * R))) (fun _ i _ => 3 - (intOf i).toNat)
  case atStart => exact ⟨0, Nat.zero_le _, rfl, ((S.out.alloc _).right).rowNil _ _⟩
  case round =>
    obtain ⟨k, hk, rfl, s1⟩ := hrel
    clear S
    obtain ⟨av, cv, rfl, -⟩ := s1.rowSlice
    by_cases hlt : k < 3
    · obtain ⟨pk, Tk, hpk, hTk, hpd, hTd, hix⟩ : ∃ (pk : Nat) (Tk : Tp), [p0, p1, p2][k]? = some pk ∧ [T0, T1, T2][k]? = some Tk ∧ [p0, p1, p2].getD k 0 = pk ∧ [T0, T1, T2].getD k Tp.new = Tk ∧
          ∀ w, (Instr.index 43 (.agg #[pp p0, pp p1, pp p2]) (.int .i64 (k : Int))).run Try.prog w = .ok (pp pk) w := by
        obtain rfl | rfl | rfl : k = 0 ∨ k = 1 ∨ k = 2 := by omega
        · exact ⟨p0, T0, rfl, rfl, rfl, rfl, fun _ => by kernel_rfl⟩
        · exact ⟨p1, T1, rfl, rfl, rfl, rfl, fun _ => by kernel_rfl⟩
        · exact ⟨p2, T2, rfl, rfl, rfl, rfl, fun _ => by kernel_rfl⟩
      have hsu := lvk_succ [T0, T1, T2] k
      rw [hTd] at hsu
      have hlen := lvk_len [T0, T1, T2] k
      generalize hL : lvk [T0, T1, T2] k = L at *
      have s2 := s1.eq (Q := tps x [p0, p1, p2] [T0, T1, T2] * (row 42 1 (.slice av L.length cv) L.length (pv [p0, p1, p2] L) * R)) (by ac_rfl)
      have q := live1_calls Tk pk _ _ (tps_out hpk hTk s2)
      have HB := Lib.hid (fun (w' : World) (s : St B w0 w' _) => (tps_back (x := x) (R := row 42 1 (.slice av L.length cv) L.length (pv [p0, p1, p2] L) * R) hpk hTk s).eq (Q := row 42 1 (.slice av L.length cv) L.length (pv [p0, p1, p2] L) * (tps x [p0, p1, p2] [T0, T1, T2] * R)) (by ac_rfl))
      have hpv : pv [p0, p1, p2] (L ++ [k]) = pv [p0, p1, p2] L ++ [pp pk] := by simp only [pv, List.map_append, List.map_cons, List.map_nil, hpd]
      have HIX := Lib.hid hix
      have HL := Lib.hid hL
      have Hpv := Lib.hid hpv
      clear hL hpv
      clear hpk hTk hpd hTd s1 s2
      cases hg : Tk.gone with
      | true =>
        rw [hg] at hsu q
        rw [if_neg (by simp)] at hsu
        have Hsu := Lib.hid hsu
        have Q := Lib.hid q
        clear hsu q
        clear hg hix
        have hix := HIX.out
        go_wp2_with fail
        clear hix
        refine Q.out.mono ?_
        rintro e w1 ⟨rfl, s1⟩
        have S1 := Lib.hid (HB.out w1 s1)
        clear s1 Q
        go_wp2_with fail
        go_roundw
        case rel => exact ⟨k + 1, by omega, by go_num, by rw [Hsu.out]; exact S1.out⟩
        case measure => simp [intOf]; omega
      | false =>
        rw [hg] at hsu q
        rw [if_pos rfl] at hsu
        have Hsu := Lib.hid hsu
        have Q := Lib.hid q
        clear hsu q
        clear hg hix
        have hix := HIX.out
        go_wp2_with fail
        clear hix
        refine Q.out.mono ?_
        rintro e w1 ⟨rfl, s1⟩
        have S1 := Lib.hid ((HB.out w1 s1).alloc (.cells #[pp pk] 42))
        have S2 := Lib.hid (St.eq (Q := row 42 1 (.slice av L.length cv) L.length (pv [p0, p1, p2] L) * (pts w1.heap.size (.cells #[pp pk] 42) * (tps x [p0, p1, p2] [T0, T1, T2] * R))) (by ac_rfl) S1.out)
        have hr := Lib.hid (Rd.new w1 #[pp pk] 42)
        clear s1 Q S1
        go_wp2_with (at_builtin; go_must (refine wpl_append rfl _ _ rfl tLP S2.out (some ⟨w1.heap.size, 0, none⟩) 1 1 [pp pk] rfl rfl hr.out (fun e => by cases e) (by simp) (by simp [Value.oneCell']) (by unfold maxLen; omega) (by omega) ?_); intro v5 w5 s5 hv5; have S5 := Lib.hid s5; clear s5 hv5 S2 hr)
        go_roundw
        case rel =>
          refine ⟨k + 1, by omega, by go_num, ?_⟩
          rw [Hsu.out, Hpv.out, List.length_append]
          exact (S5.out.eq (sep_left_comm _ _ _)).right
        case measure => simp [intOf]; omega
    · obtain rfl : k = 3 := by omega
      have S1 := Lib.hid s1
      clear s1
      go_wp2_with fail
      go_ret
      exact ⟨_, rfl, S1.out⟩
set_option maxHeartbeats 400000 in
theorem bad_calls (n : Int) (w : World) : Calls Try.prog 42 #[.int .i64 n] w fun e w' => e = .returned (.int .i64 (if n = 5 then 0 else n)) ∧ w = w' := by
  by_cases h : n = 5
  · subst h
    go_enter Try.func42, Try.ntmps42
    go_wp2_with fail
    go_ret
    exact ⟨rfl, rfl⟩
  · have h1 : (n == 5) = false := by simpa using h
    rw [if_neg h]
    clear h
    go_enter Try.func42, Try.ntmps42
    go_wp2_with fail
    go_ret
    exact ⟨rfl, rfl⟩
/-- A trio. -/
def tro (b p0 p1 p2 n : Nat) : HP := pts b (.cells #[pp p0, pp p1, pp p2, .int .i64 n] 83 (0, 0))
set_option maxHeartbeats 400000 in
theorem records_calls (b p0 p1 p2 n : Nat) (w : World) (s : St B w0 w (tro b p0 p1 p2 n * R)) : Calls Try.prog 28 #[pp b] w (RetS B w0 (tro b p0 p1 p2 n * R) (.int .i64 n)) := by
  have c3 := St.cell s 3
  simp at c3
  have S := Lib.hid s
  clear s
  go_enter Try.func28, Try.ntmps28
  go_wp2_with fail
  go_ret
  exact ⟨rfl, S.out⟩
set_option maxHeartbeats 400000 in
theorem tapes_calls (b p0 p1 p2 n : Nat) (w : World) (s : St B w0 w (tro b p0 p1 p2 n * R)) : Calls Try.prog 19 #[pp b] w (RetS B w0 (tro b p0 p1 p2 n * R) (.agg #[pp p0, pp p1, pp p2])) := by
  have s2 := s.alloc (.cells #[.pointer none, .pointer none, .pointer none] 43)
  have s3 := s2.eq (Q := tro b p0 p1 p2 n * (pts w.heap.size (.cells #[.pointer none, .pointer none, .pointer none] 43) * R)) (by ac_rfl)
  have c0 := St.cell s3 0
  have c1 := St.cell s3 1
  have c2 := St.cell s3 2
  simp at c0 c1 c2
  have S := Lib.hid s
  clear s
  clear s2 s3
  go_enter Try.func19, Try.ntmps19
  go_wp2_with fail
  exact bodyPost_ret (v := .agg #[pp p0, pp p1, pp p2]) (by simp [results, Try.results19, go_sem]) rfl ⟨rfl, (S.out.alloc _).right⟩
/-- A new trio. -/
def NewT (B : Nat) (w0 : World) (x : Option Addr) (R : HP) (e : Ending) (w' : World) : Prop := ∃ b p0 p1 p2, e = .returned (pp b) ∧ St B w0 w' (tro b p0 p1 p2 0 * (tps x [p0, p1, p2] [Tp.new, Tp.new, Tp.new] * R))
def NwI (x : Option Addr) (b : Nat) (qs : List Nat) : HP := pts b (.cells #[(qs.map pp).getD 0 (.pointer none), (qs.map pp).getD 1 (.pointer none), (qs.map pp).getD 2 (.pointer none), .int .i64 0] 83 (0, 0)) * tps x qs (qs.map fun _ => Tp.new)
def NwJ (B : Nat) (w0 : World) (x : Option Addr) (bk : Nat) (qs : List Nat) (R : HP) (j : Nat) (vs : Nat → Value) (w : World) : Prop := match j with
  | 0 => St B w0 w (NwI x bk qs * R)
  | 1 => ∃ a, vs 0 = pp a ∧ St B w0 w (tp (pp a) (.pointer x) Tp.new * (NwI x bk qs * R))
  | _ => ∃ a, vs 0 = pp a ∧ St B w0 w (NwI x bk (qs ++ [a]) * R)
theorem NwI_cell {w : World} {x : Option Addr} {bk : Nat} {qs : List Nat} {Y : HP} (s : St B w0 w (Y * (NwI x bk qs * R))) (k : Nat) : (∃ v, k < 4 → w.cell? ⟨bk, k, none⟩ = some v) ∧ w.frozen? ⟨bk, k, none⟩ = false := by
  unfold NwI at s
  have s2 := St.eq (Q := pts bk (.cells #[(qs.map pp).getD 0 (.pointer none), (qs.map pp).getD 1 (.pointer none), (qs.map pp).getD 2 (.pointer none), .int .i64 0] 83 (0, 0)) * (Y * (tps x qs (qs.map fun _ => Tp.new) * R))) (by ac_rfl) s
  refine ⟨?_, s2.free k⟩
  by_cases hk : k < 4
  · exact ⟨_, fun _ => (s2.cell k).trans (by rw [Array.getElem?_eq_getElem (by simpa using hk)])⟩
  · exact ⟨undef, fun h => absurd h hk⟩
theorem tps_snoc (x : Option Addr) : ∀ (ps : List Nat) (Ts : List Tp) (p : Nat) (T : Tp), ps.length = Ts.length → tps x (ps ++ [p]) (Ts ++ [T]) = tps x ps Ts * tp (pp p) (.pointer x) T
  | [], [], p, T, _ => by show tp _ _ _ * emp = emp * _; rw [sep_emp, emp_sep]
  | q :: ps, U :: Ts, p, T, h => by
    show tp (pp q) _ U * tps x (ps ++ [p]) (Ts ++ [T]) = tp (pp q) _ U * tps x ps Ts * _
    rw [tps_snoc x ps Ts p T (by simpa using h), sep_assoc]
theorem cells3 (qs : List Nat) (a : Nat) (hk : qs.length < 3) : (#[(qs.map pp).getD 0 (.pointer none), (qs.map pp).getD 1 (.pointer none), (qs.map pp).getD 2 (.pointer none), .int .i64 0] : Array Value).setIfInBounds qs.length (pp a) = #[((qs ++ [a]).map pp).getD 0 (.pointer none), ((qs ++ [a]).map pp).getD 1 (.pointer none), ((qs ++ [a]).map pp).getD 2 (.pointer none), .int .i64 0] := by
  cases qs with
  | nil => simp
  | cons q0 qs => cases qs with
    | nil => simp
    | cons q1 qs => cases qs with
      | nil => simp
      | cons q2 qs => exact absurd hk (by simp)
theorem swap3 (A Y C R : HP) : Y * (A * C * R) = A * (Y * (C * R)) := by ac_rfl
theorem swap4 (A Y C R : HP) : A * (Y * (C * R)) = A * (C * Y) * R := by ac_rfl
theorem NwI_set {w : World} {x : Option Addr} {bk : Nat} {qs : List Nat} {a : Nat} (hk : qs.length < 3) (s : St B w0 w (tp (pp a) (.pointer x) Tp.new * (NwI x bk qs * R))) : St B w0 (w.setCell ⟨bk, qs.length, none⟩ (pp a)) (NwI x bk (qs ++ [a]) * R) := by
  have s2 := s.eq (swap3 _ _ _ _)
  have s3 := s2.set qs.length (pp a)
  rw [cells3 qs a hk] at s3
  unfold NwI
  rw [show (qs ++ [a]).map (fun _ => Tp.new) = (qs.map fun _ => Tp.new) ++ [Tp.new] by simp, tps_snoc x qs _ a Tp.new (by simp)]
  exact s3.eq (swap4 _ _ _ _)
set_option maxRecDepth 100000 in
set_option maxHeartbeats 4000000 in
theorem newt_calls (x : Option Addr) (w : World) (s : St B w0 w R) : Calls Try.prog 16 #[.pointer x] w (NewT B w0 x R) := by
  have S := Lib.hid s
  clear s
  go_enter Try.func16, Try.ntmps16
  go_wp2_with fail
  go_loopw [7] (fun i wr => ∃ (qs : List Nat), qs.length ≤ 3 ∧ i = .int .i64 qs.length ∧ St B w0 wr (NwI x w.heap.size qs * R)) (fun i _ => 3 - (intOf i).toNat)
  case atStart =>
    refine ⟨[], Nat.zero_le _, rfl, ?_⟩
    have q := S.out.alloc (.cells #[.pointer none, .pointer none, .pointer none, .int .i64 0] 83)
    unfold NwI
    show St B w0 _ (_ * emp * R)
    rw [sep_emp]
    exact q
  case round =>
    obtain ⟨qs, hk, rfl, s1⟩ := hrel
    generalize w.heap.size = bk at *
    clear S
    by_cases hlt : qs.length < 3
    · skip
      go_wp2_with fail
      refine wp_region_rv [13] (NwJ B w0 x bk qs R) [3, 7] mixed (by kernel_rfl) (by kernel_rfl) rfl (fun _ => s1.drew) ?_
      have hl3 : (qs.length : Int) < 3 := by omega
      refine RXl.exact (.pointer (some ⟨bk, 0, none⟩)) rfl rfl rfl rfl rfl (fun _ _ _ _ _ => rfl) ?_
      refine RXl.exact (.int .i64 qs.length) rfl rfl rfl rfl rfl (fun _ _ _ _ _ => rfl) ?_
      refine RXl.exact (.pointer x) rfl rfl rfl rfl rfl (fun _ _ _ _ _ => rfl) ?_
      refine RXl.callV 0 13 rfl rfl rfl (Nat.le_of_ble_eq_true rfl) _ [.tmp 12] _ rfl rfl rfl rfl rfl (fun ρ vs w _ hJ hag => ⟨[.pointer x], by simp [hag.ex 12 _ rfl rfl rfl], rfl, (TapW.new_calls x w hJ).mono (by rintro e w' ⟨v, rfl, s⟩; obtain ⟨a, _, rfl, -⟩ := tp_open s; exact ⟨_, rfl, a, by simp [updv], s⟩)⟩) ?_
      refine RXl.exact (.pointer (some ⟨bk, 0, none⟩)) rfl rfl rfl rfl rfl (fun j τ w' hj hJ => (by obtain ⟨vs, hv, hJ⟩ := hJ; exact (by simp [rho, upd, Spec.val, execOp, go_sem]))) ?_
      refine RXl.exact (.pointer (some ⟨bk, 0, none⟩)) rfl rfl rfl rfl rfl (fun j τ w' hj hJ => (by obtain ⟨vs, hv, hJ⟩ := hJ; exact (by simp [rho, upd, Spec.val, execOp, go_sem]))) ?_
      refine RXl.exact (.pointer (some ⟨bk, qs.length, none⟩)) rfl rfl rfl rfl rfl (fun j τ w' hj hJ => (by obtain ⟨vs, hv, hJ⟩ := hJ; exact (by simp [rho, upd, Spec.val, execOp, go_sem, hl3]))) ?_
      refine RXl.effS 1 rfl rfl rfl rfl rfl rfl (fun ρ vs w hv hJ hag => by obtain ⟨a, e, s⟩ := hJ; have e13 := (hv 0 13 (by decide) rfl).trans e; obtain ⟨⟨v, hc⟩, hf⟩ := NwI_cell s qs.length; exact ⟨_, exec_store rfl (hag.ex 16 _ rfl rfl rfl) e13 rfl (by kernel_rfl) (hc (by omega)) hf, a, e, NwI_set hlt s⟩) ?_
      refine RXl.nilV _ (AgrL.upd _ _ (AgrL.upd _ _ (AgrL.upd _ _ (AgrL.unk 13 _ rfl (AgrL.upd _ _ (AgrL.upd _ _ (AgrL.upd _ _ (AgrL.base _)))))))) (by decide) (by decide) fun vs w8 hJ => ?_
      simp only [puts, Act.put, List.setIfInBounds_toArray, List.set_cons_succ, List.set_cons_zero]
      obtain ⟨a, e8, s8⟩ := hJ
      rw [e8]
      have S8 := Lib.hid s8
      clear s8 s1 e8
      go_wp2_with fail
      go_roundw
      case rel => exact ⟨qs ++ [a], by simp; omega, by simp, S8.out⟩
      case measure => simp [intOf]; omega
    · have S1 := Lib.hid s1
      obtain ⟨p0, p1, p2, rfl⟩ : ∃ p0 p1 p2, qs = [p0, p1, p2] := by
        match qs, hk, hlt with
        | [], _, h => exact absurd (by decide) h
        | [_], _, h => exact absurd (by simp) h
        | [_, _], _, h => exact absurd (by simp) h
        | [a, b, c], _, _ => exact ⟨a, b, c, rfl⟩
        | _ :: _ :: _ :: _ :: _, h, _ => exact absurd h (by simp)
      clear s1
      go_wp2_with fail
      go_ret
      exact ⟨bk, p0, p1, p2, rfl, S1.out.eq (sep_assoc _ _ _)⟩
/-- write: the first bytes stay, the others are put behind them. -/
def tWrite (F : Option Fu) (T : Tp) (keep : Nat) (b : List UInt8) : Int × Option Fu × Tp :=
  if (tCut F T keep).1 = 0 then
    if (tApp (tCut F T keep).2.1 (tCut F T keep).2.2 (b.drop keep)).1 = 0 then
      ((tSync (tApp (tCut F T keep).2.1 (tCut F T keep).2.2 (b.drop keep)).2.1 (tApp (tCut F T keep).2.1 (tCut F T keep).2.2 (b.drop keep)).2.2).1,
        (tApp (tCut F T keep).2.1 (tCut F T keep).2.2 (b.drop keep)).2.1,
        (tSync (tApp (tCut F T keep).2.1 (tCut F T keep).2.2 (b.drop keep)).2.1 (tApp (tCut F T keep).2.1 (tCut F T keep).2.2 (b.drop keep)).2.2).2)
    else tApp (tCut F T keep).2.1 (tCut F T keep).2.2 (b.drop keep)
  else tCut F T keep
set_option maxRecDepth 100000 in
set_option maxHeartbeats 4000000 in
theorem write_calls (F : Option Fu) (T : Tp) (keep : Nat) (b : List UInt8) (p : Nat) (x a : Option Addr) (c : Nat) (w : World) (hb : Reads B w0 R (.slice a b.length c) b) (hk : keep ≤ b.length) (hn : b.length ≤ 1000000) (s : St B w0 w (tp (pp p) (.pointer x) T * (fz (.pointer x) F * R))) :
    Calls Try.prog 46 #[pp p, .int .i64 keep, .slice a b.length c] w (RetS B w0 (tp (pp p) (.pointer x) (tWrite F T keep b).2.2 * (fz (.pointer x) (tWrite F T keep b).2.1 * R)) (.int .i64 (tWrite F T keep b).1)) := by
  have hbs := hb w _ (s.eq (sep_assoc _ _ _).symm)
  have hc := hbs.rd.2.1
  have hsl : ∀ w, (Instr.sliceAt 23 (.slice a b.length c) (some (.int .i64 (keep : Int))) none none).run Try.prog w = .ok (.slice (subA a c keep 1) (b.length - keep) (c - keep)) w := fun w =>
    run_slice_sl tB w a b.length c (some (.int .i64 (keep : Int))) none keep b.length (.inr ⟨_, rfl⟩) (.inl ⟨rfl, rfl⟩) hk hc
  have hb2 : Reads B w0 R (.slice (subA a c keep 1) (b.length - keep) (c - keep)) (b.drop keep) := fun w' H s' => by
    have q := (hb w' H s').sub keep b.length hk (Nat.le_refl _)
    rwa [List.take_of_length_le (by rw [List.length_drop]; omega)] at q
  have q1 := cut_calls F T keep (pp p) x w s
  have ok1 : ∀ F1 T1 w1, St B w0 w1 (tp (pp p) (.pointer x) T1 * (fz (.pointer x) F1 * R)) → Calls Try.prog 23 #[pp p, .slice (subA a c keep 1) (b.length - keep) (c - keep)] w1 (RetS B w0 (tp (pp p) (.pointer x) (tApp F1 T1 (b.drop keep)).2.2 * (fz (.pointer x) (tApp F1 T1 (b.drop keep)).2.1 * R)) (.int .i64 (tApp F1 T1 (b.drop keep)).1)) := fun F1 T1 w1 s1 =>
    append_calls F1 T1 (b.drop keep) (pp p) x _ _ _ w1 hb2 (by omega) s1
  unfold tWrite
  generalize tCut F T keep = X1 at *
  obtain ⟨e1, F1, T1⟩ := X1
  by_cases h1 : e1 = 0
  · subst h1
    rw [if_pos rfl]
    have q2 := ok1 F1 T1
    simp only
    generalize tApp F1 T1 (b.drop keep) = X2 at *
    obtain ⟨e2, F2, T2⟩ := X2
    generalize hsa : subA a c keep 1 = sa at *
    generalize hsn : b.length - keep = sn at *
    generalize hsc : c - keep = sc at *
    have hk2 : (keep : Int) ≤ (b.length : Int) := by omega
    have hc2 : (b.length : Int) ≤ (c : Int) := by omega
    by_cases h2 : e2 = 0
    · subst h2
      rw [if_pos rfl]
      simp only
      have Q1 := Lib.hid q1
      have Q2 := Lib.hid q2
      have Hsl := Lib.hid hsl
      clear q1 q2 hsl
      clear s hb hbs hb2 ok1 hsa hsn hsc hk hc
      go_enter Try.func46, Try.ntmps46
      go_wp2_with fail
      refine Q1.out.mono ?_
      rintro e w1 ⟨rfl, s1⟩
      have Q2' := Lib.hid (Q2.out w1 s1)
      have hsl := Hsl.out
      clear Q1 Q2 s1
      go_wp2_with fail
      clear hsl
      refine Q2'.out.mono ?_
      rintro e w2 ⟨rfl, s2⟩
      have Q3 := Lib.hid (sync_calls F2 T2 (pp p) x w2 s2)
      clear Q2' s2
      go_wp2_with fail
      refine Q3.out.mono ?_
      rintro e w3 ⟨rfl, s3⟩
      have S3 := Lib.hid s3
      clear s3 Q3
      go_wp2_with fail
      go_ret
      exact ⟨rfl, S3.out⟩
    · rw [if_neg h2]
      have h3 : (e2 != 0) = true := by simpa using h2
      simp only
      have Q1 := Lib.hid q1
      have Q2 := Lib.hid q2
      have Hsl := Lib.hid hsl
      clear q1 q2 hsl
      clear s hb hbs hb2 ok1 hsa hsn hsc hk hc h2
      go_enter Try.func46, Try.ntmps46
      go_wp2_with fail
      refine Q1.out.mono ?_
      rintro e w1 ⟨rfl, s1⟩
      have Q2' := Lib.hid (Q2.out w1 s1)
      have hsl := Hsl.out
      clear Q1 Q2 s1
      go_wp2_with fail
      clear hsl
      refine Q2'.out.mono ?_
      rintro e w2 ⟨rfl, s2⟩
      have S2 := Lib.hid s2
      clear s2 Q2'
      go_wp2_with fail
      go_ret
      exact ⟨rfl, S2.out⟩
  · rw [if_neg h1]
    have h3 : (e1 != 0) = true := by simpa using h1
    simp only at q1 ⊢
    have Q1 := Lib.hid q1
    clear q1
    clear s hb hbs hb2 ok1 hk hc h1 hsl
    go_enter Try.func46, Try.ntmps46
    go_wp2_with fail
    refine Q1.out.mono ?_
    rintro e w1 ⟨rfl, s1⟩
    have S1 := Lib.hid s1
    clear s1 Q1
    go_wp2_with fail
    go_ret
    exact ⟨rfl, S1.out⟩
end
end Go.Proofs.Ytkkkncchinejmaa.TrW
