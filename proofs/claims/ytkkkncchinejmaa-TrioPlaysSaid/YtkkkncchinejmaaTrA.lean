/- Package trio, walked: Append. No condition. -/
import Derived.Test.YtkkkncchinejmaaTrC
namespace Go.Proofs.Ytkkkncchinejmaa.TrW
open Go Go.RowKit Go.Proofs.Ytkkkncchinejmaa Go.Proofs.Ytkkkncchinejmaa.Sp Go.Proofs.Ytkkkncchinejmaa.Reg Go.Proofs.Ytkkkncchinejmaa.SlW Go.Proofs.Ytkkkncchinejmaa.Fus Go.Proofs.Ytkkkncchinejmaa.TrM Go.Proofs.Ytkkkncchinejmaa.TapW
theorem lvi_mem {Ts : List Tp} {i : Nat} (h : i ∈ lvi Ts) : i < 3 ∧ (Ts.getD i Tp.new).gone = false := by
  unfold lvi lvk at h
  rw [List.mem_filter, List.mem_range] at h
  exact ⟨h.1, by simpa using h.2⟩
theorem lvi_len (Ts : List Tp) : (lvi Ts).length ≤ 3 := lvk_len Ts 3
section
variable {B : Nat} {w0 : World} {R : HP}
theorem lives3 (x : Option Addr) (p0 p1 p2 : Nat) (Ts : List Tp) (hT : Ts.length = 3) (w : World) (s : St B w0 w (tps x [p0, p1, p2] Ts * R)) :
    Calls Try.prog 41 #[.agg #[pp p0, pp p1, pp p2]] w (LvP B w0 [p0, p1, p2] (lvi Ts) (tps x [p0, p1, p2] Ts * R)) := by
  match Ts, hT, s with
  | [T0, T1, T2], _, s => exact lives_calls x p0 p1 p2 T0 T1 T2 w s
/-- The first error that ends a call. -/
def bd (n : Int) : Int := if n = 5 then 0 else n
def apK : Option Fu → List Tp → List Nat → List UInt8 → Int × Option Fu × List Tp
  | F, Ts, [], _ => (0, F, Ts)
  | F, Ts, i :: is, b =>
    if bd (tApp F (Ts.getD i Tp.new) b).1 = 0 then apK (tApp F (Ts.getD i Tp.new) b).2.1 (Ts.set i (tApp F (Ts.getD i Tp.new) b).2.2) is b
    else (bd (tApp F (Ts.getD i Tp.new) b).1, (tApp F (Ts.getD i Tp.new) b).2.1, Ts.set i (tApp F (Ts.getD i Tp.new) b).2.2)
def syK : Option Fu → List Tp → List Nat → Int × List Tp
  | _, Ts, [] => (0, Ts)
  | F, Ts, i :: is =>
    if bd (tSync F (Ts.getD i Tp.new)).1 = 0 then syK F (Ts.set i (tSync F (Ts.getD i Tp.new)).2) is
    else (bd (tSync F (Ts.getD i Tp.new)).1, Ts.set i (tSync F (Ts.getD i Tp.new)).2)
def fullK (Ts : List Tp) (l : List Nat) (n : Nat) : Bool := l.any fun i => decide (65536 < (Ts.getD i Tp.new).b.length + n)
/-- Append. -/
def trApp (F : Option Fu) (Ts : List Tp) (n : Nat) (r : List UInt8) : Int × Option Fu × List Tp × Nat :=
  if r.length < 1 ∨ 250 < r.length then (1, F, Ts, n)
  else if (lvi Ts).length < 2 then (8, F, Ts, n)
  else if fullK Ts (lvi Ts) (r.length + 1) = true then (7, F, Ts, n)
  else if (apK F Ts (lvi Ts) (jn1 r)).1 = 0 then
    if (syK (apK F Ts (lvi Ts) (jn1 r)).2.1 (apK F Ts (lvi Ts) (jn1 r)).2.2 (lvi Ts)).1 = 0 then (0, (apK F Ts (lvi Ts) (jn1 r)).2.1, (syK (apK F Ts (lvi Ts) (jn1 r)).2.1 (apK F Ts (lvi Ts) (jn1 r)).2.2 (lvi Ts)).2, n + 1)
    else ((syK (apK F Ts (lvi Ts) (jn1 r)).2.1 (apK F Ts (lvi Ts) (jn1 r)).2.2 (lvi Ts)).1, (apK F Ts (lvi Ts) (jn1 r)).2.1, (syK (apK F Ts (lvi Ts) (jn1 r)).2.1 (apK F Ts (lvi Ts) (jn1 r)).2.2 (lvi Ts)).2, n)
  else ((apK F Ts (lvi Ts) (jn1 r)).1, (apK F Ts (lvi Ts) (jn1 r)).2.1, (apK F Ts (lvi Ts) (jn1 r)).2.2, n)
theorem pick {w : World} {ps L : List Nat} {a : Option Addr} {c : Nat} (s : St B w0 w (row 42 1 (.slice a L.length c) L.length (pv ps L) * R)) (k : Nat) (hk : k < L.length) : ∃ g, a = some ⟨g, 0, none⟩ ∧ w.cell? ⟨g, k, none⟩ = some (pp (ps.getD L[k] 0)) := by
  obtain ⟨a', c', e', -, -, -, hg⟩ := s.rowSlice
  cases e'
  obtain ⟨g, e, hc⟩ := hg (by omega)
  exact ⟨g, e, by rw [hc k (by omega)]; simp [pv, hk]⟩
theorem get_p {ps : List Nat} {i : Nat} (h : i < ps.length) : ps[i]? = some (ps.getD i 0) := by simp [List.getD, List.getElem?_eq_getElem h]
theorem get_T {Ts : List Tp} {i : Nat} (h : i < Ts.length) : Ts[i]? = some (Ts.getD i Tp.new) := by simp [List.getD, List.getElem?_eq_getElem h]
theorem drop_at (L : List Nat) (k : Nat) (hk : k < L.length) : L.drop k = L[k] :: L.drop (k + 1) := List.drop_eq_getElem_cons hk
/-- What is owned within Append and Open. -/
def Same (v : Value) (L : List Nat) (x : Option Addr) (ps : List Nat) (Ts : List Tp) (F : Option Fu) (Y : HP) : HP :=
  row 42 1 v L.length (pv ps L) * (tps x ps Ts * (fz (.pointer x) F * Y))
theorem same_tp {w : World} {v : Value} {L : List Nat} {x : Option Addr} {ps : List Nat} {Ts : List Tp} {F : Option Fu} {Y : HP} {i : Nat} (h1 : i < ps.length) (h2 : i < Ts.length) (s : St B w0 w (Same v L x ps Ts F Y)) :
    St B w0 w (tp (pp (ps.getD i 0)) (.pointer x) (Ts.getD i Tp.new) * (fz (.pointer x) F * (tps x (ps.eraseIdx i) (Ts.eraseIdx i) * (row 42 1 v L.length (pv ps L) * Y)))) :=
  (tps_out (get_p h1) (get_T h2) (s.eq (Q := tps x ps Ts * (row 42 1 v L.length (pv ps L) * (fz (.pointer x) F * Y))) (by unfold Same; ac_rfl))).eq (by ac_rfl)
theorem same_set {w : World} {v : Value} {L : List Nat} {x : Option Addr} {ps : List Nat} {Ts : List Tp} {F' : Option Fu} {Y : HP} {i : Nat} {T : Tp} (h1 : i < ps.length) (h2 : i < Ts.length)
    (s : St B w0 w (tp (pp (ps.getD i 0)) (.pointer x) T * (fz (.pointer x) F' * (tps x (ps.eraseIdx i) (Ts.eraseIdx i) * (row 42 1 v L.length (pv ps L) * Y))))) : St B w0 w (Same v L x ps (Ts.set i T) F' Y) :=
  (tps_in (get_p h1) h2 (s.eq (Q := tp (pp (ps.getD i 0)) (.pointer x) T * (tps x (ps.eraseIdx i) (Ts.eraseIdx i) * (row 42 1 v L.length (pv ps L) * (fz (.pointer x) F' * Y)))) (by ac_rfl))).eq (by unfold Same; ac_rfl)
theorem same_back {w : World} {v : Value} {L : List Nat} {x : Option Addr} {ps : List Nat} {Ts : List Tp} {F : Option Fu} {Y : HP} {i : Nat} (h1 : i < ps.length) (h2 : i < Ts.length)
    (s : St B w0 w (tp (pp (ps.getD i 0)) (.pointer x) (Ts.getD i Tp.new) * (fz (.pointer x) F * (tps x (ps.eraseIdx i) (Ts.eraseIdx i) * (row 42 1 v L.length (pv ps L) * Y))))) : St B w0 w (Same v L x ps Ts F Y) :=
  (tps_back (get_p h1) (get_T h2) (s.eq (Q := tp (pp (ps.getD i 0)) (.pointer x) (Ts.getD i Tp.new) * (tps x (ps.eraseIdx i) (Ts.eraseIdx i) * (row 42 1 v L.length (pv ps L) * (fz (.pointer x) F * Y)))) (by ac_rfl))).eq (by unfold Same; ac_rfl)
theorem same_y {w : World} {v : Value} {L : List Nat} {x : Option Addr} {ps : List Nat} {Ts : List Tp} {F : Option Fu} {Y : HP} (s : St B w0 w (Same v L x ps Ts F Y)) : St B w0 w (Y * (tps x ps Ts * fz (.pointer x) F)) :=
  (s.eq (Q := row 42 1 v L.length (pv ps L) * (Y * (tps x ps Ts * fz (.pointer x) F))) (by unfold Same; ac_rfl)).right
/-- A trio, its tapes, their Fuse. -/
def trx (b : Nat) (x : Option Addr) (ps : List Nat) (n : Nat) (Ts : List Tp) (F : Option Fu) : HP :=
  tro b (ps.getD 0 0) (ps.getD 1 0) (ps.getD 2 0) n * (tps x ps Ts * fz (.pointer x) F)
theorem same_end {w : World} {v : Value} {L : List Nat} {x : Option Addr} {b p0 p1 p2 n : Nat} {Ts : List Tp} {F : Option Fu} {Z : HP} (s : St B w0 w (Same v L x [p0, p1, p2] Ts F (Z * (tro b p0 p1 p2 n * R)))) : St B w0 w (trx b x [p0, p1, p2] n Ts F * R) :=
  ((same_y s).eq (Q := Z * (tro b p0 p1 p2 n * (tps x [p0, p1, p2] Ts * fz (.pointer x) F) * R)) (by ac_rfl)).right
set_option maxRecDepth 100000 in
set_option maxHeartbeats 8000000 in
theorem tappend_calls (F : Option Fu) (Ts : List Tp) (n : Nat) (r : List UInt8) (b p0 p1 p2 : Nat) (x a : Option Addr) (c : Nat) (hT : Ts.length = 3) (hn : n ≤ 1000000) (hr : r.length ≤ 1000000) (w : World) (hb : Reads B w0 R (.slice a r.length c) r)
    (s : St B w0 w (trx b x [p0, p1, p2] n Ts F * R)) :
    Calls Try.prog 18 #[pp b, .slice a r.length c] w (RetS B w0 (trx b x [p0, p1, p2] (trApp F Ts n r).2.2.2 (trApp F Ts n r).2.2.1 (trApp F Ts n r).2.1 * R) (.int .i64 (trApp F Ts n r).1)) := by
  have hb1 := hb
  have s1 := s.eq (Q := tro b p0 p1 p2 n * (tps x [p0, p1, p2] Ts * (fz (.pointer x) F * R))) (by unfold trx; show tro b p0 p1 p2 n * _ * _ = _; ac_rfl)
  have c0 := St.cell s1 0
  have c1 := St.cell s1 1
  have c2 := St.cell s1 2
  simp at c0 c1 c2
  have Q := Lib.hid (lives3 x p0 p1 p2 Ts hT w (s1.eq (Q := tps x [p0, p1, p2] Ts * (fz (.pointer x) F * (tro b p0 p1 p2 n * R))) (by ac_rfl)))
  have hll := lvi_len Ts
  have hlm := fun i => lvi_mem (Ts := Ts) (i := i)
  generalize hL : lvi Ts = L at *
  by_cases h1 : r.length < 1 ∨ 250 < r.length
  · have e : trApp F Ts n r = (1, F, Ts, n) := by unfold trApp; rw [if_pos h1]
    rw [e]
    have h2 : (r.length : Int) < 1 ∨ ¬ (r.length : Int) < 1 ∧ (250 : Int) < r.length := by omega
    clear s s1 hb hb1 e h1
    have HT := Lib.hid hT
    have HL := Lib.hid hL
    have Hlm := Lib.hid hlm
    clear hT hL hlm
    rcases h2 with h2 | ⟨h2, h3⟩
    all_goals
      go_enter Try.func18, Try.ntmps18
      go_wp2_with fail
      refine Q.out.mono ?_
      rintro e w1 ⟨v, rfl, s1⟩
      obtain ⟨av, cv, rfl, -⟩ := s1.rowSlice
      have S1 := Lib.hid s1
      clear s1 Q
      go_wp2_with fail
      go_ret
      exact ⟨rfl, S1.out.right.eq (by unfold trx; show _ = tro b p0 p1 p2 n * _ * _; ac_rfl)⟩
  · have hr1 : ¬ (r.length : Int) < 1 := by omega
    have hr2 : ¬ (250 : Int) < r.length := by omega
    by_cases h2 : L.length < 2
    · have e : trApp F Ts n r = (8, F, Ts, n) := by unfold trApp; rw [if_neg h1, hL, if_pos h2]
      rw [e]
      have h2' : (L.length : Int) < 2 := by omega
      clear s s1 hb hb1 e h1
      have HT := Lib.hid hT
      have HL := Lib.hid hL
      have Hlm := Lib.hid hlm
      clear hT hL hlm
      go_enter Try.func18, Try.ntmps18
      go_wp2_with fail
      refine Q.out.mono ?_
      rintro e w1 ⟨v, rfl, s1⟩
      obtain ⟨av, cv, rfl, -⟩ := s1.rowSlice
      have S1 := Lib.hid s1
      clear s1 Q
      go_wp2_with fail
      go_ret
      exact ⟨rfl, S1.out.right.eq (by unfold trx; show _ = tro b p0 p1 p2 n * _ * _; ac_rfl)⟩
    · have h2' : ¬ (L.length : Int) < 2 := by omega
      have hE : trApp F Ts n r = if fullK Ts L (r.length + 1) = true then (7, F, Ts, n) else if (apK F Ts L (jn1 r)).1 = 0 then
          if (syK (apK F Ts L (jn1 r)).2.1 (apK F Ts L (jn1 r)).2.2 L).1 = 0 then (0, (apK F Ts L (jn1 r)).2.1, (syK (apK F Ts L (jn1 r)).2.1 (apK F Ts L (jn1 r)).2.2 L).2, n + 1)
          else ((syK (apK F Ts L (jn1 r)).2.1 (apK F Ts L (jn1 r)).2.2 L).1, (apK F Ts L (jn1 r)).2.1, (syK (apK F Ts L (jn1 r)).2.1 (apK F Ts L (jn1 r)).2.2 L).2, n)
        else ((apK F Ts L (jn1 r)).1, (apK F Ts L (jn1 r)).2.1, (apK F Ts L (jn1 r)).2.2, n) := by
        unfold trApp; rw [if_neg h1, hL, if_neg h2]
      have hbv := ofNat_bv r.length (by omega)
      obtain ⟨m, hm, hm2⟩ : ∃ m, r.length + 1 = m ∧ m ≤ 251 := ⟨_, rfl, by omega⟩
      rw [hm] at hE
      have Hm := Lib.hid (show ([UInt8.ofNat r.length] ++ r).length = m from by rw [← hm]; simp)
      clear hm
      have hr0 : (0 : Int) ≤ (r.length : Int) := by omega
      have hr9 : (r.length : Int) ≤ 250 := by omega
      have HBV := Lib.hid hbv
      have HB := Lib.hid hb
      have HT := Lib.hid hT
      have HL := Lib.hid hL
      have Hlm := Lib.hid hlm
      have HE := Lib.hid hE
      clear hT hL hlm hE
      clear s s1 hb hb1 h1 hbv
      go_enter Try.func18, Try.ntmps18
      go_wp2_with fail
      refine Q.out.mono ?_
      rintro e w1 ⟨v, rfl, s1⟩
      obtain ⟨av, cv, rfl, -⟩ := s1.rowSlice
      have s2 := s1.alloc (.cells #[.int .u8 (r.length : Int)] 5)
      have s3 := Lib.hid (s2.rowMk (e := 5) (size := 1) (n := 1) (cap := 1) (xs := bvs [UInt8.ofNat r.length]) (Nat.le_refl _) (by unfold maxLen; omega) (by simp) (by simp only [bvs, List.map_cons, List.map_nil, HBV.out]; rfl))
      have hbs := Lib.hid (HB.out _ (row 42 1 (.slice av L.length cv) L.length (pv [p0, p1, p2] L) * (tps x [p0, p1, p2] Ts * (fz (.pointer x) F * tro b p0 p1 p2 n)) * pts w1.heap.size (.cells #[.int .u8 (r.length : Int)] 5)) (s2.eq (by ac_rfl)))
      clear s1 s2 Q
      go_wp2_with (at_builtin; go_must (refine wpl_appendB rfl _ _ rfl tB s3.out a r.length c hbs.out rfl rfl (by simp only [List.length_singleton]; omega) ?_); intro a3 c3 w3 s4; rw [Hm.out] at s4 ⊢; have S4 := Lib.hid (St.eq (Q := Same (.slice av L.length cv) L x [p0, p1, p2] Ts F (row 5 1 (.slice a3 m c3) m (bvs (jn1 r)) * (tro b p0 p1 p2 n * R))) (by unfold Same; show row 5 1 (.slice a3 m c3) m (bvs (jn1 r)) * _ = _; ac_rfl) s4); clear s4 s3 hbs)
      clear c0 c1 c2 hr
      go_loopw [43] (fun i wr => ∃ k : Nat, k ≤ L.length ∧ i = .int .i64 k ∧ fullK Ts L m = fullK Ts (L.drop k) m ∧ St B w0 wr (Same (.slice av L.length cv) L x [p0, p1, p2] Ts F (row 5 1 (.slice a3 m c3) m (bvs (jn1 r)) * (tro b p0 p1 p2 n * R)))) (fun i _ => L.length - (intOf i).toNat)
      case atStart => exact ⟨0, Nat.zero_le _, rfl, rfl, S4.out⟩
      case round =>
        obtain ⟨k, hk, rfl, hfu, s1⟩ := hrel
        clear S4
        by_cases hlt : k < L.length
        · obtain ⟨g, rfl, hck⟩ := pick (show St B w0 _ (row 42 1 (.slice av L.length cv) L.length (pv [p0, p1, p2] L) * _) from s1) k hlt
          obtain ⟨hi1, hi2⟩ := Hlm.out L[k] (List.getElem_mem hlt)
          rw [drop_at L k hlt] at hfu
          generalize hi : L[k] = i at *
          have hi3 : i < Ts.length := by rw [HT.out]; exact hi1
          have s2 := same_tp (by simpa using hi1) hi3 s1
          obtain ⟨-, -, -, hok, -⟩ := tp_open s2
          have hbl := hok.2
          have HBK := Lib.hid (fun (w' : World) (s' : St B w0 w' _) => same_back (v := .slice (some ⟨g, 0, none⟩) L.length cv) (L := L) (x := x) (F := F) (Y := row 5 1 (.slice a3 m c3) m (bvs (jn1 r)) * (tro b p0 p1 p2 n * R)) (show i < [p0, p1, p2].length by simpa using hi1) hi3 s')
          generalize hp : [p0, p1, p2].getD i 0 = p at *
          have hTb : tBytes (Ts.getD i Tp.new) = (Ts.getD i Tp.new).b := by unfold tBytes; rw [hi2]; rfl
          have hTe : tErr (Ts.getD i Tp.new) = 0 := by unfold tErr; rw [hi2]; rfl
          have q := bytes_calls _ _ _ _ s2
          rw [hTb, hTe] at q
          generalize hT : Ts.getD i Tp.new = T at *
          have hfu2 : fullK Ts (i :: L.drop (k + 1)) m = (decide (65536 < T.b.length + m) || fullK Ts (L.drop (k + 1)) m) := by rw [← hT]; rfl
          rw [hfu2] at hfu
          have Q := Lib.hid q
          have Hi := Lib.hid hi
          have Hp := Lib.hid hp
          have HT := Lib.hid hT
          clear hi hp hT
          clear s1 s2 q hTb hTe hok hi2 hfu2
          by_cases hf : 65536 < T.b.length + m
          · rw [decide_eq_true hf, Bool.true_or] at hfu
            have hf' : (65536 : Int) < (T.b.length : Int) + (m : Int) := by omega
            have E := Lib.hid (show trApp F Ts n r = (7, F, Ts, n) by rw [HE.out, if_pos hfu])
            clear hfu hf
            rw [E.out]
            go_wp2_with fail
            refine Q.out.mono ?_
            rintro e w4 ⟨a4, c4, rfl, s5⟩
            have S5 := Lib.hid (HBK.out w4 s5.right)
            clear s5 Q
            go_wp2_with fail
            go_ret
            exact ⟨rfl, same_end S5.out⟩
          · rw [decide_eq_false hf, Bool.false_or] at hfu
            have hf' : ¬ (65536 : Int) < (T.b.length : Int) + (m : Int) := by omega
            have Hfu := Lib.hid hfu
            clear hfu hf
            go_wp2_with fail
            refine Q.out.mono ?_
            rintro e w4 ⟨a4, c4, rfl, s5⟩
            have S5 := Lib.hid (HBK.out w4 s5.right)
            clear s5 Q
            go_wp2_with fail
            go_roundw
            case rel => exact ⟨k + 1, by omega, by go_num, Hfu.out, S5.out⟩
            case measure => simp [intOf]; omega
        · obtain rfl : k = L.length := by omega
          rw [List.drop_of_length_le (Nat.le_refl _)] at hfu
          have hfu : fullK Ts L m = false := hfu
          have hE2 := HE.out
          rw [if_neg (by rw [hfu]; simp)] at hE2
          have S1 := Lib.hid s1
          have E2 := Lib.hid hE2
          clear s1 hfu hE2 HE
          go_wp2_with fail
          go_loopw [61] (fun i wr => ∃ (k : Nat) (F' : Option Fu) (Ts' : List Tp), k ≤ L.length ∧ i = .int .i64 k ∧ Ts'.length = 3 ∧ apK F Ts L (jn1 r) = apK F' Ts' (L.drop k) (jn1 r) ∧ St B w0 wr (Same (.slice av L.length cv) L x [p0, p1, p2] Ts' F' (row 5 1 (.slice a3 m c3) m (bvs (jn1 r)) * (tro b p0 p1 p2 n * R)))) (fun i _ => L.length - (intOf i).toNat)
          case atStart => exact ⟨0, F, Ts, Nat.zero_le _, rfl, HT.out, rfl, S1.out⟩
          case round =>
            obtain ⟨k, F', Ts', hk, rfl, hT', hap, s1⟩ := hrel
            clear S1
            by_cases hlt : k < L.length
            · obtain ⟨g, rfl, hck⟩ := pick (show St B w0 _ (row 42 1 (.slice av L.length cv) L.length (pv [p0, p1, p2] L) * _) from s1) k hlt
              obtain ⟨hi1, -⟩ := Hlm.out L[k] (List.getElem_mem hlt)
              rw [drop_at L k hlt] at hap
              generalize hi : L[k] = i at *
              have hi3 : i < Ts'.length := by rw [hT']; exact hi1
              have s2 := same_tp (by simpa using hi1) hi3 s1
              have HBK := Lib.hid (fun (w' : World) (F'' : Option Fu) (T'' : Tp) (s' : St B w0 w' _) => same_set (v := .slice (some ⟨g, 0, none⟩) L.length cv) (L := L) (x := x) (F' := F'') (T := T'') (Y := row 5 1 (.slice a3 m c3) m (bvs (jn1 r)) * (tro b p0 p1 p2 n * R)) (show i < [p0, p1, p2].length by simpa using hi1) hi3 s')
              generalize hp : [p0, p1, p2].getD i 0 = p at *
              have q := append_calls F' (Ts'.getD i Tp.new) (jn1 r) (pp p) x (a := a3) (n := m) (c := c3) _ (reads_left _ (reads_left _ (reads_right _ reads_row))) (by omega) s2
              have hap2 : apK F' Ts' (i :: L.drop (k + 1)) (jn1 r) = if bd (tApp F' (Ts'.getD i Tp.new) (jn1 r)).1 = 0 then apK (tApp F' (Ts'.getD i Tp.new) (jn1 r)).2.1 (Ts'.set i (tApp F' (Ts'.getD i Tp.new) (jn1 r)).2.2) (L.drop (k + 1)) (jn1 r) else (bd (tApp F' (Ts'.getD i Tp.new) (jn1 r)).1, (tApp F' (Ts'.getD i Tp.new) (jn1 r)).2.1, Ts'.set i (tApp F' (Ts'.getD i Tp.new) (jn1 r)).2.2) := rfl
              rw [hap2] at hap
              generalize tApp F' (Ts'.getD i Tp.new) (jn1 r) = X at *
              obtain ⟨e1, F1, T1⟩ := X
              simp only at hap q
              have Q := Lib.hid q
              have HT' := Lib.hid hT'
              have Hi := Lib.hid hi
              have Hp := Lib.hid hp
              clear hi hp
              clear s1 s2 q hap2 hT'
              by_cases hf : bd e1 = 0
              · rw [if_pos hf] at hap
                have Qb := Lib.hid (fun w => bad_calls e1 w)
                have Hf := Lib.hid hf
                have Hap := Lib.hid hap
                clear hap
                clear hf hi1 hi3
                go_wp2_with fail
                refine Q.out.mono ?_
                rintro e w4 ⟨rfl, s5⟩
                have S5 := Lib.hid (HBK.out w4 F1 T1 s5)
                clear s5 Q
                go_wp2_with fail
                refine (Qb.out w4).mono ?_
                rintro e w5 ⟨he, rfl⟩
                rw [show (if e1 = 5 then (0 : Int) else e1) = 0 from Hf.out] at he
                subst he
                go_wp2_with fail
                go_roundw
                case rel => exact ⟨k + 1, F1, Ts'.set i T1, by omega, by go_num, by rw [List.length_set]; exact HT'.out, Hap.out, S5.out⟩
                case measure => simp [intOf]; omega
              · rw [if_neg hf] at hap
                obtain ⟨e3, he3⟩ : ∃ e3, bd e1 = e3 := ⟨_, rfl⟩
                rw [he3] at hf hap
                have HE3 := Lib.hid he3
                clear he3
                have Qb := Lib.hid (fun w => bad_calls e1 w)
                have hE3 : trApp F Ts n r = (e3, F1, Ts'.set i T1, n) := by rw [E2.out, hap, if_neg hf]
                have hf' : (e3 != 0) = true := by simpa using hf
                have E3 := Lib.hid hE3
                clear hf hi1 hi3 hap hE3
                go_wp2_with fail
                refine Q.out.mono ?_
                rintro e w4 ⟨rfl, s5⟩
                have S5 := Lib.hid (HBK.out w4 F1 T1 s5)
                clear s5 Q
                go_wp2_with fail
                refine (Qb.out w4).mono ?_
                rintro e w5 ⟨he, rfl⟩
                rw [show (if e1 = 5 then (0 : Int) else e1) = e3 from HE3.out] at he
                subst he
                go_wp2_with fail
                go_ret
                rw [E3.out]
                exact ⟨rfl, same_end S5.out⟩
            · obtain rfl : k = L.length := by omega
              rw [List.drop_of_length_le (Nat.le_refl _)] at hap
              have hap : apK F Ts L (jn1 r) = (0, F', Ts') := hap
              have hE4 : trApp F Ts n r = if (syK F' Ts' L).1 = 0 then (0, F', (syK F' Ts' L).2, n + 1) else ((syK F' Ts' L).1, F', (syK F' Ts' L).2, n) := by rw [E2.out, hap]; rfl
              have S1 := Lib.hid s1
              have E4 := Lib.hid hE4
              have HT' := Lib.hid hT'
              clear s1 hap hE4 E2 hT'
              go_wp2_with fail
              go_loopw [75] (fun i wr => ∃ (k : Nat) (Ts2 : List Tp), k ≤ L.length ∧ i = .int .i64 k ∧ Ts2.length = 3 ∧ syK F' Ts' L = syK F' Ts2 (L.drop k) ∧ St B w0 wr (Same (.slice av L.length cv) L x [p0, p1, p2] Ts2 F' (row 5 1 (.slice a3 m c3) m (bvs (jn1 r)) * (tro b p0 p1 p2 n * R)))) (fun i _ => L.length - (intOf i).toNat)
              case atStart => exact ⟨0, Ts', Nat.zero_le _, rfl, HT'.out, rfl, S1.out⟩
              case round =>
                obtain ⟨k, Ts2, hk, rfl, hT2, hsy, s1⟩ := hrel
                clear S1
                by_cases hlt : k < L.length
                · obtain ⟨g, rfl, hck⟩ := pick (show St B w0 _ (row 42 1 (.slice av L.length cv) L.length (pv [p0, p1, p2] L) * _) from s1) k hlt
                  obtain ⟨hi1, -⟩ := Hlm.out L[k] (List.getElem_mem hlt)
                  rw [drop_at L k hlt] at hsy
                  generalize hi : L[k] = i at *
                  have hi3 : i < Ts2.length := by rw [hT2]; exact hi1
                  have s2 := same_tp (by simpa using hi1) hi3 s1
                  have HBK := Lib.hid (fun (w' : World) (F'' : Option Fu) (T'' : Tp) (s' : St B w0 w' _) => same_set (v := .slice (some ⟨g, 0, none⟩) L.length cv) (L := L) (x := x) (F' := F'') (T := T'') (Y := row 5 1 (.slice a3 m c3) m (bvs (jn1 r)) * (tro b p0 p1 p2 n * R)) (show i < [p0, p1, p2].length by simpa using hi1) hi3 s')
                  generalize hp : [p0, p1, p2].getD i 0 = p at *
                  have q := sync_calls F' (Ts2.getD i Tp.new) (pp p) x _ s2
                  have hsy2 : syK F' Ts2 (i :: L.drop (k + 1)) = if bd (tSync F' (Ts2.getD i Tp.new)).1 = 0 then syK F' (Ts2.set i (tSync F' (Ts2.getD i Tp.new)).2) (L.drop (k + 1)) else (bd (tSync F' (Ts2.getD i Tp.new)).1, Ts2.set i (tSync F' (Ts2.getD i Tp.new)).2) := rfl
                  rw [hsy2] at hsy
                  generalize tSync F' (Ts2.getD i Tp.new) = X at *
                  obtain ⟨e1, T1⟩ := X
                  simp only at hsy q
                  have Q := Lib.hid q
                  have HT2 := Lib.hid hT2
                  have Hi := Lib.hid hi
                  have Hp := Lib.hid hp
                  clear hi hp
                  clear s1 s2 q hsy2 hT2
                  by_cases hf : bd e1 = 0
                  · rw [if_pos hf] at hsy
                    have Qb := Lib.hid (fun w => bad_calls e1 w)
                    have Hf := Lib.hid hf
                    have Hsy := Lib.hid hsy
                    clear hsy
                    clear hf hi1 hi3
                    go_wp2_with fail
                    refine Q.out.mono ?_
                    rintro e w4 ⟨rfl, s5⟩
                    have S5 := Lib.hid (HBK.out w4 F' T1 s5)
                    clear s5 Q
                    go_wp2_with fail
                    refine (Qb.out w4).mono ?_
                    rintro e w5 ⟨he, rfl⟩
                    rw [show (if e1 = 5 then (0 : Int) else e1) = 0 from Hf.out] at he
                    subst he
                    go_wp2_with fail
                    go_roundw
                    case rel => exact ⟨k + 1, Ts2.set i T1, by omega, by go_num, by rw [List.length_set]; exact HT2.out, Hsy.out, S5.out⟩
                    case measure => simp [intOf]; omega
                  · rw [if_neg hf] at hsy
                    obtain ⟨e3, he3⟩ : ∃ e3, bd e1 = e3 := ⟨_, rfl⟩
                    rw [he3] at hf hsy
                    have HE3 := Lib.hid he3
                    clear he3
                    have Qb := Lib.hid (fun w => bad_calls e1 w)
                    have hE3 : trApp F Ts n r = (e3, F', Ts2.set i T1, n) := by rw [E4.out, hsy, if_neg hf]
                    have hf' : (e3 != 0) = true := by simpa using hf
                    have E3 := Lib.hid hE3
                    clear hf hi1 hi3 hsy hE3
                    go_wp2_with fail
                    refine Q.out.mono ?_
                    rintro e w4 ⟨rfl, s5⟩
                    have S5 := Lib.hid (HBK.out w4 F' T1 s5)
                    clear s5 Q
                    go_wp2_with fail
                    refine (Qb.out w4).mono ?_
                    rintro e w5 ⟨he, rfl⟩
                    rw [show (if e1 = 5 then (0 : Int) else e1) = e3 from HE3.out] at he
                    subst he
                    go_wp2_with fail
                    go_ret
                    rw [E3.out]
                    exact ⟨rfl, same_end S5.out⟩
                · obtain rfl : k = L.length := by omega
                  rw [List.drop_of_length_le (Nat.le_refl _)] at hsy
                  have hsy : syK F' Ts' L = (0, Ts2) := hsy
                  have hE5 : trApp F Ts n r = (0, F', Ts2, n + 1) := by rw [E4.out, hsy]; rfl
                  have E5 := Lib.hid hE5
                  have s2 : St B w0 _ (pts b (.cells #[pp p0, pp p1, pp p2, .int .i64 n] 83 (0, 0)) * ((tps x [p0, p1, p2] Ts2 * fz (.pointer x) F') * R)) := (same_end s1).eq (sep_assoc _ _ _)
                  have c3' := s2.cell 3
                  have f3 := s2.free 3
                  simp at c3'
                  have S2 := Lib.hid s2
                  clear s1 s2 hsy hE5 E4
                  go_wp2_with fail
                  go_ret
                  rw [E5.out]
                  refine ⟨rfl, ?_⟩
                  have q := S2.out.set 3 (.int .i64 ((n : Int) + 1))
                  exact q.eq (sep_assoc _ _ _).symm
end
end Go.Proofs.Ytkkkncchinejmaa.TrW
