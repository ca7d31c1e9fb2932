/- TrioOpens: power goes in an opening; what the tapes are, told by an invariant. Plain. No condition. -/
import Derived.Test.YtkkkncchinejmaaTrK1
namespace Go.Proofs.Ytkkkncchinejmaa.TrL
open Go Go.RowKit Go.Proofs.Ytkkkncchinejmaa Go.Proofs.Ytkkkncchinejmaa.Sp Go.Proofs.Ytkkkncchinejmaa.Fus Go.Proofs.Ytkkkncchinejmaa.TrM Go.Proofs.Ytkkkncchinejmaa.TapW Go.Proofs.Ytkkkncchinejmaa.TrW
/-- A live tape: all records, a beginning of one more; the records are sure. -/
def Gd (L : List (List UInt8)) (r : List UInt8) (T : Tp) : Prop := T.gone = false ∧ (∃ k, T.b = jn L ++ (jn1 r).take k) ∧ (jn L).length + T.loose ≤ T.b.length
def sN (L : List (List UInt8)) (r : List UInt8) (T : Tp) : Nat := if TF L r T && decide (T.loose = 0) then 1 else 0
def wN (L : List (List UInt8)) (r : List UInt8) (T : Tp) : Nat := if TF L r T then 1 else 0
/-- How many are whole. -/
def Cn (L : List (List UInt8)) (r : List UInt8) (f : Bool) (T0 T1 T2 : Tp) : Prop := if f then 2 ≤ sN L r T0 + sN L r T1 + sN L r T2 else wN L r T0 + wN L r T1 + wN L r T2 ≤ 1
def Iv (L : List (List UInt8)) (r : List UInt8) (f : Bool) (Ts : List Tp) : Prop := ∃ T0 T1 T2, Ts = [T0, T1, T2] ∧ Gd L r T0 ∧ Gd L r T1 ∧ Gd L r T2 ∧ Cn L r f T0 T1 T2
/-- What takes a tape's place. -/
def Nx (L : List (List UInt8)) (r : List UInt8) (f : Bool) (T T' : Tp) : Prop := if f then TF L r T = false ∨ sN L r T ≤ sN L r T' else wN L r T' ≤ wN L r T
theorem Nx.s {L : List (List UInt8)} {r : List UInt8} {T T' : Tp} (h : Nx L r true T T') : sN L r T ≤ sN L r T' := by
  rcases h with h | h
  · unfold sN; rw [h]; simp
  · exact h
theorem Cn.step0 {L : List (List UInt8)} {r : List UInt8} {f : Bool} {T0 T1 T2 T0' T1' T2' : Tp} (h : Cn L r f T0 T1 T2) (n0 : Nx L r f T0 T0') (n1 : Nx L r f T1 T1') (n2 : Nx L r f T2 T2') : Cn L r f T0' T1' T2' := by
  cases f with
  | true =>
    have h : 2 ≤ sN L r T0 + sN L r T1 + sN L r T2 := h
    have := n0.s; have := n1.s; have := n2.s
    show 2 ≤ sN L r T0' + sN L r T1' + sN L r T2'
    omega
  | false =>
    have h : wN L r T0 + wN L r T1 + wN L r T2 ≤ 1 := h
    have n0 : wN L r T0' ≤ wN L r T0 := n0
    have n1 : wN L r T1' ≤ wN L r T1 := n1
    have n2 : wN L r T2' ≤ wN L r T2 := n2
    show wN L r T0' + wN L r T1' + wN L r T2' ≤ 1
    omega
theorem Nx.refl (L : List (List UInt8)) (r : List UInt8) (f : Bool) (T : Tp) : Nx L r f T T := by
  cases f
  · exact Nat.le_refl _
  · exact .inr (Nat.le_refl _)
theorem Iv.get {L : List (List UInt8)} {r : List UInt8} {f : Bool} {Ts : List Tp} (h : Iv L r f Ts) (i : Nat) (hi : i < 3) : Gd L r (Ts.getD i Tp.new) := by
  obtain ⟨T0, T1, T2, rfl, g0, g1, g2, -⟩ := h
  obtain rfl | rfl | rfl : i = 0 ∨ i = 1 ∨ i = 2 := by omega
  · exact g0
  · exact g1
  · exact g2
theorem Iv.set {L : List (List UInt8)} {r : List UInt8} {f : Bool} {Ts : List Tp} (h : Iv L r f Ts) (i : Nat) (hi : i < 3) {T' : Tp} (hg : Gd L r T') (hn : Nx L r f (Ts.getD i Tp.new) T') : Iv L r f (Ts.set i T') := by
  obtain ⟨T0, T1, T2, rfl, g0, g1, g2, hc⟩ := h
  obtain rfl | rfl | rfl : i = 0 ∨ i = 1 ∨ i = 2 := by omega
  · exact ⟨T', T1, T2, rfl, hg, g1, g2, hc.step0 hn (Nx.refl _ _ _ _) (Nx.refl _ _ _ _)⟩
  · exact ⟨T0, T', T2, rfl, g0, hg, g2, hc.step0 (Nx.refl _ _ _ _) hn (Nx.refl _ _ _ _)⟩
  · exact ⟨T0, T1, T', rfl, g0, g1, hg, hc.step0 (Nx.refl _ _ _ _) (Nx.refl _ _ _ _) hn⟩
/-- A Fuse of a bound that is known. -/
def bnd (F : Option Fu) : Prop := und F ∨ ∃ m, F = some ⟨m, true⟩
theorem tf_short {L : List (List UInt8)} {r : List UInt8} {lo : Nat} {g : Bool} : TF L r ⟨jn L, lo, g⟩ = false := by
  unfold TF
  refine decide_eq_false fun e => jn1_ne r ?_
  simpa using e.symm
/-- A tape that is written, power there or not. -/
theorem write_iv {F : Option Fu} (hF : bnd F) {L : List (List UInt8)} {r : List UInt8} {T : Tp} (hg : Gd L r T) (f : Bool) (hl : (jn (L ++ tl f r)).length ≤ 65536) (hne : T.b ≠ jn (L ++ tl f r)) :
    ∃ c F' T', tWrite F T (jn L).length (jn (L ++ tl f r)) = (c, F', T') ∧ (c = 0 ∨ c = 4) ∧ bnd F' ∧ (F.isSome = true → F'.isSome = true) ∧ Gd L r T' ∧ Nx L r f T T' := by
  obtain ⟨h1, ⟨k, h2⟩, h3⟩ := hg
  have hfin : Gd L r (ft (jn (L ++ tl f r)) false) := by
    refine ⟨rfl, ⟨if f then (jn1 r).length else 0, ?_⟩, ?_⟩
    · show jn (L ++ tl f r) = _
      cases f <;> simp [tl, jn_snoc]
    · show (jn L).length + 0 ≤ (jn (L ++ tl f r)).length
      cases f <;> simp [tl, jn_snoc]
  have hnT : f = true → TF L r T = false := fun hf => by
    subst hf
    unfold TF
    refine decide_eq_false fun e => hne ?_
    rw [e]; simp [tl, jn_snoc]
  have hw0 : ∀ lo g, f = false → wN L r ⟨jn L, lo, g⟩ ≤ wN L r T := fun lo g _ => by
    unfold wN; rw [tf_short]; simp
  have hnx : ∀ T', (f = false → wN L r T' ≤ wN L r T) → Nx L r f T T' := fun T' h => by
    cases f with
    | true => exact .inl (hnT rfl)
    | false => exact h rfl
  rcases hF with hu | ⟨m, rfl⟩
  · exact ⟨0, F, _, write_tl hu h1 ⟨k, h2⟩ f hl, .inl rfl, .inl hu, fun h => h, hfin, hnx _ fun hf => by subst hf; simp only [tl]; simpa [ft] using hw0 0 false rfl⟩
  · have hlen : (jn L).length ≤ T.b.length := by omega
    by_cases m0 : m = 0
    · subst m0
      have e1 : tCut (some ⟨0, true⟩) T (jn L).length = (4, some ⟨0, true⟩, T) := by
        unfold tCut
        rw [if_neg (by simp [h1]), if_neg (by omega), if_pos (by simp [fdead])]
      refine ⟨4, some ⟨0, true⟩, T, ?_, .inr rfl, .inr ⟨_, rfl⟩, fun _ => rfl, ⟨h1, ⟨k, h2⟩, h3⟩, Nx.refl _ _ _ _⟩
      unfold tWrite
      rw [e1]
      simp
    · have e1 : tCut (some ⟨m, true⟩) T (jn L).length = (0, some ⟨m - 1, true⟩, ⟨jn L, 0, false⟩) := by
        unfold tCut
        rw [if_neg (by simp [h1]), if_neg (by omega), if_neg (by simp [fdead, m0])]
        rw [h1, h2]
        simp [fspend]
      have e3 : jn L ++ (jn (L ++ tl f r)).drop (jn L).length = jn (L ++ tl f r) := by rw [jn_append, List.drop_left]
      have e4 : (jn L).length + ((jn (L ++ tl f r)).drop (jn L).length).length = (jn (L ++ tl f r)).length := by
        rw [← List.length_append, e3]
      by_cases m1 : m = 1
      · subst m1
        have e2 : tApp (some ⟨0, true⟩) ⟨jn L, 0, false⟩ ((jn (L ++ tl f r)).drop (jn L).length) = (4, some ⟨0, true⟩, ⟨jn L, 0, false⟩) := by
          unfold tApp
          rw [if_neg (by simp), if_neg (by simp only; omega), if_pos (by simp [fdead])]
        refine ⟨4, some ⟨0, true⟩, ⟨jn L, 0, false⟩, ?_, .inr rfl, .inr ⟨_, rfl⟩, fun _ => rfl, ⟨rfl, ⟨0, by simp⟩, by simp⟩, hnx _ (hw0 _ _)⟩
        unfold tWrite
        rw [e1]
        simp only [if_true, Nat.sub_self, e2]
        simp
      · have e2 : tApp (some ⟨m - 1, true⟩) ⟨jn L, 0, false⟩ ((jn (L ++ tl f r)).drop (jn L).length) = (0, some ⟨m - 2, true⟩, ⟨jn (L ++ tl f r), ((jn (L ++ tl f r)).drop (jn L).length).length, false⟩) := by
          unfold tApp
          rw [if_neg (by simp), if_neg (by simp only; omega), if_neg (by simp [fdead]; omega)]
          have : m - 1 - 1 = m - 2 := by omega
          simp only [fspend, Nat.zero_add, e3, if_true, this]
        have hlo : Gd L r ⟨jn (L ++ tl f r), ((jn (L ++ tl f r)).drop (jn L).length).length, false⟩ := ⟨rfl, hfin.2.1, by show (jn L).length + ((jn (L ++ tl f r)).drop (jn L).length).length ≤ (jn (L ++ tl f r)).length; omega⟩
        have hwl : f = false → ∀ lo, wN L r ⟨jn (L ++ tl f r), lo, false⟩ ≤ wN L r T := fun hf lo => by
          subst hf
          simpa [tl] using hw0 lo false rfl
        by_cases m2 : m = 2
        · subst m2
          have e5 : ∀ x n, tSync (some ⟨0, true⟩) ⟨x, n, false⟩ = (4, ⟨x, n, false⟩) := fun x n => by
            unfold tSync
            rw [if_neg (by simp), if_pos (by simp [fdead])]
          refine ⟨4, some ⟨0, true⟩, ⟨jn (L ++ tl f r), ((jn (L ++ tl f r)).drop (jn L).length).length, false⟩, ?_, .inr rfl, .inr ⟨_, rfl⟩, fun _ => rfl, hlo, hnx _ fun hf => hwl hf _⟩
          unfold tWrite
          rw [e1]
          simp only [if_true, e2, Nat.sub_self, e5]
        · have e5 : ∀ x n, tSync (some ⟨m - 2, true⟩) ⟨x, n, false⟩ = (0, ft x false) := fun x n => by
            unfold tSync
            rw [if_neg (by simp), if_neg (by simp [fdead]; omega)]
            rfl
          refine ⟨0, some ⟨m - 2, true⟩, ft (jn (L ++ tl f r)) false, ?_, .inl rfl, .inr ⟨_, rfl⟩, fun _ => rfl, hfin, hnx _ fun hf => hwl hf _⟩
          unfold tWrite
          rw [e1]
          simp only [if_true, e2, e5]
/-- What an opening makes of the tapes, power there or not. -/
theorem opK_iv {L : List (List UInt8)} (hL : ∀ x ∈ L, okr x) {r : List UInt8} (hr : okr r) (f : Bool) (hl : (jn (L ++ tl f r)).length ≤ 65536) : ∀ (l : List Nat) (F : Option Fu) (Ts : List Tp), (∀ i ∈ l, i < 3) → bnd F → Iv L r f Ts →
    ∃ c F' Ts', opK F Ts l (L ++ tl f r) = (c, F', Ts') ∧ (c = 0 ∨ c = 4) ∧ bnd F' ∧ (F.isSome = true → F'.isSome = true) ∧ Iv L r f Ts'
  | [], F, Ts, _, hF, h => ⟨0, F, Ts, rfl, .inl rfl, hF, fun h => h, h⟩
  | i :: l, F, Ts, hi, hF, h => by
    by_cases he : (Ts.getD i Tp.new).b = jn (L ++ tl f r)
    · simp only [opK]
      rw [if_pos he]
      exact opK_iv hL hr f hl l F Ts (fun j hj => hi j (by simp [hj])) hF h
    · have hg := h.get i (hi i (by simp))
      have hk := keep_tl hL hr hg.2.1 f he
      obtain ⟨c, F1, T1, e1, e2, e3, e4, e5, e6⟩ := write_iv hF hg f hl he
      simp only [opK]
      rw [if_neg he, hk, e1]
      have h' := h.set i (hi i (by simp)) e5 e6
      rcases e2 with rfl | rfl
      · simp only [if_true]
        obtain ⟨c', F2, Ts', g1, g2, g3, g4, g5⟩ := opK_iv hL hr f hl l F1 (Ts.set i T1) (fun j hj => hi j (by simp [hj])) e3 h'
        exact ⟨c', F2, Ts', g1, g2, g3, fun h => g4 (e4 h), g5⟩
      · exact ⟨4, F1, Ts.set i T1, by simp, .inr rfl, e3, e4, h'⟩
theorem Iv.live {L : List (List UInt8)} {r : List UInt8} {f : Bool} {Ts : List Tp} (h : Iv L r f Ts) : lvi Ts = [0, 1, 2] := by
  obtain ⟨T0, T1, T2, rfl, ⟨g0, -⟩, ⟨g1, -⟩, ⟨g2, -⟩, -⟩ := h
  simp [lvi, lvk, List.range, List.range.loop, List.filter, g0, g1, g2]
theorem Iv.two {L : List (List UInt8)} {r : List UInt8} {f : Bool} {Ts : List Tp} (h : Iv L r f Ts) : TrL.two L r Ts [0, 1, 2] = f := by
  obtain ⟨T0, T1, T2, rfl, -, -, -, hc⟩ := h
  unfold TrL.two
  have e : ∀ T, wN L r T = if TF L r T then 1 else 0 := fun T => rfl
  have e2 : ∀ T, sN L r T ≤ if TF L r T then 1 else 0 := fun T => by
    unfold sN
    cases TF L r T <;> simp
    split <;> omega
  cases f with
  | true =>
    have hc : 2 ≤ sN L r T0 + sN L r T1 + sN L r T2 := hc
    have := e2 T0; have := e2 T1; have := e2 T2
    refine decide_eq_true ?_
    simp only [List.filter, List.getD_cons_zero, List.getD_cons_succ]
    cases h0 : TF L r T0 <;> cases h1 : TF L r T1 <;> cases h2 : TF L r T2 <;> simp [h0, h1, h2] at * <;> omega
  | false =>
    have hc : wN L r T0 + wN L r T1 + wN L r T2 ≤ 1 := hc
    rw [e, e, e] at hc
    refine decide_eq_false ?_
    simp only [List.filter, List.getD_cons_zero, List.getD_cons_succ]
    cases h0 : TF L r T0 <;> cases h1 : TF L r T1 <;> cases h2 : TF L r T2 <;> simp [h0, h1, h2] at *
/-- An opening, power there or not. -/
theorem open_iv (B : Nat) (w0 : World) (p0 p1 p2 : Nat) (x : Option Addr) (R : HP) {F : Option Fu} (hF : bnd F) {L : List (List UInt8)} (hL : ∀ x ∈ L, okr x) {r : List UInt8} (hr : okr r) {f : Bool} {Ts : List Tp} (h : Iv L r f Ts) (hl : (jn L).length + (jn1 r).length ≤ 65536) :
    ∃ F' Ts', bnd F' ∧ (F.isSome = true → F'.isSome = true) ∧ Iv L r f Ts' ∧
      ((∀ e w', OpP B w0 x [p0, p1, p2] Ts F R e w' → OpYes B w0 x [p0, p1, p2] Ts' F' (L ++ tl f r) R e w') ∨ (∀ e w', OpP B w0 x [p0, p1, p2] Ts F R e w' → OpNo B w0 x [p0, p1, p2] Ts' F' 4 R e w')) := by
  have hlv := h.live
  have h2 : ¬ (lvi Ts).length < 2 := by rw [hlv]; simp
  have hb := best_tl hL hr h2 fun i hi => (h.get i (lvi_mem hi).1).2.1
  rw [hlv, h.two] at hb
  have hl2 : (jn (L ++ tl f r)).length ≤ 65536 := by cases f <;> simp [tl, jn_snoc] <;> omega
  obtain ⟨c, F', Ts', e1, e2, e3, e4, e5⟩ := opK_iv hL hr f hl2 [0, 1, 2] F Ts (by intro i hi; simp at hi; omega) hF h
  refine ⟨F', Ts', e3, e4, e5, ?_⟩
  rcases e2 with rfl | rfl
  · refine .inl fun e w' ho => ?_
    unfold OpP at ho
    rw [if_neg h2, hb, hlv, e1, if_pos rfl] at ho
    exact ho
  · refine .inr fun e w' ho => ?_
    unfold OpP at ho
    rw [if_neg h2, hb, hlv, e1, if_neg (by simp)] at ho
    exact ho
/-- A crash. -/
theorem crash_gd {L : List (List UInt8)} {r : List UInt8} {T : Tp} (h : Gd L r T) (n : Int) (f : Bool) : TY L r (tCrash T n) ∧ Gd L r (tCrash T n) ∧ Nx L r f T (tCrash T n) := by
  obtain ⟨h1, ⟨k, h2⟩, h3⟩ := h
  have hb : ∃ k, (tCrash T n).b = jn L ++ (jn1 r).take k := by
    refine ⟨min (T.b.length - T.loose + min n.toNat T.loose - (jn L).length) k, ?_⟩
    show T.b.take _ = _
    generalize hm : T.b.length - T.loose + min n.toNat T.loose = m
    have hm2 : (jn L).length ≤ m := by omega
    rw [h2, List.take_append, List.take_of_length_le hm2, List.take_take]
  have hl : (jn L).length ≤ (tCrash T n).b.length := by
    obtain ⟨k, e⟩ := hb
    rw [e, List.length_append]; omega
  refine ⟨⟨h1, rfl, hb⟩, ⟨h1, hb, by show _ + 0 ≤ _; omega⟩, ?_⟩
  cases f with
  | true =>
    refine .inr ?_
    unfold sN
    by_cases ht : TF L r T = true ∧ T.loose = 0
    · obtain ⟨t1, t2⟩ := ht
      have e : tCrash T n = ⟨T.b, 0, T.gone⟩ := by
        unfold tCrash
        rw [t2]
        simp
      have e2 : TF L r (tCrash T n) = true := by rw [e]; exact t1
      rw [e2, show (tCrash T n).loose = 0 from rfl]
      simp
      split <;> omega
    · have : (TF L r T && decide (T.loose = 0)) = false := by
        cases h : TF L r T
        · rfl
        · simp; intro e; exact ht ⟨h, e⟩
      rw [this]; simp
  | false =>
    show wN L r (tCrash T n) ≤ wN L r T
    unfold wN
    by_cases ht : TF L r T = true
    · rw [ht]; split <;> simp
    · have : TF L r (tCrash T n) = false := by
        unfold TF
        refine decide_eq_false fun e => ht ?_
        unfold TF
        refine decide_eq_true ?_
        have e' : T.b.take (T.b.length - T.loose + min n.toNat T.loose) = jn L ++ jn1 r := e
        have hle : T.b.length ≤ (jn L ++ jn1 r).length := by
          rw [h2, List.length_append, List.length_append, List.length_take]; omega
        have hge := congrArg List.length e'
        rw [List.length_take] at hge
        rw [List.take_of_length_le (by omega)] at e'
        exact e'
      rw [this]; simp
theorem Iv.crash {L : List (List UInt8)} {r : List UInt8} {f : Bool} {T0 T1 T2 : Tp} (h : Iv L r f [T0, T1, T2]) (n0 n1 n2 : Int) : Iv L r f (crs T0 T1 T2 n0 n1 n2 3) := by
  obtain ⟨_, _, _, e, g0, g1, g2, hc⟩ := h
  cases e
  have a0 := crash_gd g0 n0 f
  have a1 := crash_gd g1 n1 f
  have a2 := crash_gd g2 n2 f
  exact ⟨_, _, _, rfl, a0.2.1, a1.2.1, a2.2.1, hc.step0 a0.2.2 a1.2.2 a2.2.2⟩
end Go.Proofs.Ytkkkncchinejmaa.TrL
