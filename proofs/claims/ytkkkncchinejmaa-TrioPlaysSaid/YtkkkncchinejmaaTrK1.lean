/- TrioKeeps: records appended while power may go, and a crash behind them. Plain. No condition. -/
import Derived.Test.YtkkkncchinejmaaTrP
namespace Go.Proofs.Ytkkkncchinejmaa.TrL
open Go Go.RowKit Go.Proofs.Ytkkkncchinejmaa Go.Proofs.Ytkkkncchinejmaa.Sp Go.Proofs.Ytkkkncchinejmaa.Fus Go.Proofs.Ytkkkncchinejmaa.TrM Go.Proofs.Ytkkkncchinejmaa.TapW Go.Proofs.Ytkkkncchinejmaa.TrW
/-- A tape that may have taken bytes that are not sure. -/
def lt (c b : List UInt8) (g : Bool) : Tp := if g then ⟨c ++ b, b.length, false⟩ else ft c false
theorem app_live (c : List UInt8) (n l : Nat) (r : List UInt8) (h : okr r) (hl : c.length + (r.length + 1) ≤ 65536) (h4 : 4 ≤ l) :
    trApp (some ⟨l, true⟩) (fam 3 c []) n r = (0, some ⟨l - 3, true⟩, fam 3 (c ++ jn1 r) [], n + 1) := by
  obtain ⟨h1, h2⟩ := h
  have e1 : ¬ (r.length < 1 ∨ 250 < r.length) := by omega
  have e4 : ∀ i, 1 ≤ i → tApp (some ⟨i, true⟩) (ft c false) (jn1 r) = (0, some ⟨i - 1, true⟩, ⟨c ++ jn1 r, (jn1 r).length, false⟩) := fun i hi => by
    have : i ≠ 0 := by omega
    simp [tApp, ft, fdead, fspend, jn1_len, this]; omega
  have e7 : ∀ x i, 1 ≤ i → tSync (some ⟨i, true⟩) ⟨x, (jn1 r).length, false⟩ = (0, ft x false) := fun x i hi => by
    have : i ≠ 0 := by omega
    simp [tSync, fdead, ft, this]
  have e2 : lvi (fam 3 c []) = [0, 1, 2] := rfl
  unfold trApp
  rw [if_neg e1, e2, if_neg (by simp), if_neg (by simp [fullK, fam, ft]; omega)]
  have e8 : l - 1 - 1 - 1 = l - 3 := by omega
  simp [apK, syK, fam, e4 l (by omega), e4 (l - 1) (by omega), e4 (l - 1 - 1) (by omega), e7 _ (l - 1 - 1 - 1) (by omega), bd, e8, e7 _ (l - 3) (by omega)]
theorem app_dead (c : List UInt8) (n l : Nat) (r : List UInt8) (h : okr r) (hl : c.length + (r.length + 1) ≤ 65536) (h4 : l < 4) :
    trApp (some ⟨l, true⟩) (fam 3 c []) n r = (4, some ⟨0, true⟩, [lt c (jn1 r) (decide (0 < l)), lt c (jn1 r) (decide (1 < l)), lt c (jn1 r) (decide (2 < l))], n) := by
  obtain ⟨h1, h2⟩ := h
  have e1 : ¬ (r.length < 1 ∨ 250 < r.length) := by omega
  have e4 : ∀ i, tApp (some ⟨i + 1, true⟩) (ft c false) (jn1 r) = (0, some ⟨i, true⟩, ⟨c ++ jn1 r, (jn1 r).length, false⟩) := fun i => by
    simp [tApp, ft, fdead, fspend, jn1_len]; omega
  have e5 : tApp (some ⟨0, true⟩) (ft c false) (jn1 r) = (4, some ⟨0, true⟩, ft c false) := by
    simp [tApp, ft, fdead, jn1_len]; omega
  have e7 : tSync (some ⟨0, true⟩) ⟨c ++ jn1 r, (jn1 r).length, false⟩ = (4, ⟨c ++ jn1 r, (jn1 r).length, false⟩) := by
    simp [tSync, fdead]
  have e2 : lvi (fam 3 c []) = [0, 1, 2] := rfl
  unfold trApp
  rw [if_neg e1, e2, if_neg (by simp), if_neg (by simp [fullK, fam, ft]; omega)]
  obtain rfl | rfl | rfl | rfl : l = 0 ∨ l = 1 ∨ l = 2 ∨ l = 3 := by omega
  · simp [apK, syK, fam, e5, bd, lt]
  · simp [apK, syK, fam, e4 0, e5, bd, lt]
  · simp [apK, syK, fam, e4 0, e4 1, e5, bd, lt]
  · simp [apK, syK, fam, e4 0, e4 1, e4 2, e7, bd, lt]
theorem jn1_ne (r : List UInt8) : jn1 r ≠ [] := by
  intro e
  have := congrArg List.length e
  rw [jn1_len] at this
  simp at this
/-- What a crash leaves of such a tape. -/
theorem crash_lt (L : List (List UInt8)) (r : List UInt8) (g : Bool) (k : Int) : TY L r (tCrash (lt (jn L) (jn1 r) g) k) ∧ (g = false → (tCrash (lt (jn L) (jn1 r) g) k).b = jn L) := by
  cases g with
  | false =>
    have e : tCrash (lt (jn L) (jn1 r) false) k = ft (jn L) false := by simp [tCrash, lt, ft]
    rw [e]
    exact ⟨⟨rfl, rfl, 0, by simp [ft]⟩, fun _ => rfl⟩
  | true =>
    refine ⟨⟨rfl, rfl, min k.toNat (jn1 r).length, ?_⟩, fun h => by cases h⟩
    show (jn L ++ jn1 r).take _ = _
    rw [show (lt (jn L) (jn1 r) true).b.length - (lt (jn L) (jn1 r) true).loose + min k.toNat (lt (jn L) (jn1 r) true).loose = (jn L).length + min k.toNat (jn1 r).length by simp [lt], List.take_length_add_append]
theorem fam_lt (L : List (List UInt8)) (r : List UInt8) : fam 3 (jn L) [] = [lt (jn L) (jn1 r) false, lt (jn L) (jn1 r) false, lt (jn L) (jn1 r) false] := rfl
/-- The first k of three tapes behind a crash. -/
def crs (T0 T1 T2 : Tp) (n0 n1 n2 : Int) (k : Nat) : List Tp := [if 0 < k then tCrash T0 n0 else T0, if 1 < k then tCrash T1 n1 else T1, if 2 < k then tCrash T2 n2 else T2]
theorem crs_step (T0 T1 T2 : Tp) (n0 n1 n2 : Int) (k : Nat) (hk : k < 3) : (crs T0 T1 T2 n0 n1 n2 k).set k (tCrash ((crs T0 T1 T2 n0 n1 n2 k).getD k Tp.new) ([n0, n1, n2].getD k 0)) = crs T0 T1 T2 n0 n1 n2 (k + 1) := by
  obtain rfl | rfl | rfl : k = 0 ∨ k = 1 ∨ k = 2 := by omega
  all_goals rfl
/-- Tapes as an opening finds them: those that are live are the records, and a beginning of one more; the text is that one, or none. -/
def Kp (L : List (List UInt8)) (r nx : List UInt8) (Ts : List Tp) : Prop := Ts.length = 3 ∧ ¬ (lvi Ts).length < 2 ∧ (∀ i ∈ lvi Ts, TY L r (Ts.getD i Tp.new)) ∧ (nx = r ∨ nx = [] ∧ ∀ i ∈ lvi Ts, (Ts.getD i Tp.new).b = jn L)
theorem Kp.two {L : List (List UInt8)} {r : List UInt8} {Ts : List Tp} (h : Kp L r [] Ts) (hr : okr r) : two L r Ts (lvi Ts) = false := by
  obtain ⟨-, -, -, h⟩ := h
  have h : ∀ i ∈ lvi Ts, (Ts.getD i Tp.new).b = jn L := by
    rcases h with h | h
    · subst h
      exact absurd hr.1 (by simp)
    · exact h.2
  unfold TrL.two
  have e : (lvi Ts).filter (fun i => TF L r (Ts.getD i Tp.new)) = [] := by
    rw [List.filter_eq_nil_iff]
    intro i hi e
    unfold TF at e
    rw [h i hi] at e
    have := of_decide_eq_true e
    exact jn1_ne r (by simpa using this)
  rw [e]
  rfl
/-- Three tapes behind a crash, none failed. -/
theorem kp_crash (L : List (List UInt8)) (r : List UInt8) (g0 g1 g2 : Bool) (n0 n1 n2 : Int) (nx : List UInt8) (hn : nx = r ∨ nx = [] ∧ g0 = false ∧ g1 = false ∧ g2 = false) :
    Kp L r nx (crs (lt (jn L) (jn1 r) g0) (lt (jn L) (jn1 r) g1) (lt (jn L) (jn1 r) g2) n0 n1 n2 3) := by
  obtain ⟨a1, b1⟩ := crash_lt L r g0 n0
  obtain ⟨a2, b2⟩ := crash_lt L r g1 n1
  obtain ⟨a3, b3⟩ := crash_lt L r g2 n2
  show Kp L r nx [tCrash _ n0, tCrash _ n1, tCrash _ n2]
  generalize tCrash (lt (jn L) (jn1 r) g0) n0 = T0 at *
  generalize tCrash (lt (jn L) (jn1 r) g1) n1 = T1 at *
  generalize tCrash (lt (jn L) (jn1 r) g2) n2 = T2 at *
  have hl : lvi [T0, T1, T2] = [0, 1, 2] := by
    have e0 := a1.1
    have e1 := a2.1
    have e2 := a3.1
    simp [lvi, lvk, List.range, List.range.loop, List.filter, e0, e1, e2]
  refine ⟨rfl, by rw [hl]; simp, ?_, ?_⟩
  · rw [hl]
    intro i hi
    simp at hi
    obtain rfl | rfl | rfl := hi
    · exact a1
    · exact a2
    · exact a3
  · rcases hn with h | ⟨h, h0, h1, h2⟩
    · exact .inl h
    · refine .inr ⟨h, ?_⟩
      rw [hl]
      intro i hi
      simp at hi
      obtain rfl | rfl | rfl := hi
      · exact b1 h0
      · exact b2 h1
      · exact b3 h2
/-- One of three live ones fails. -/
theorem kp_fail {L : List (List UInt8)} {r nx : List UInt8} {Ts : List Tp} (h : Kp L r nx Ts) (h3 : lvi Ts = [0, 1, 2]) (q : Nat) (hq : q < 3) : Kp L r nx (Ts.set q ⟨(Ts.getD q Tp.new).b, (Ts.getD q Tp.new).loose, true⟩) := by
  obtain ⟨a1, a2, a3, a4⟩ := h
  have hl : ∀ i ∈ lvi (Ts.set q ⟨(Ts.getD q Tp.new).b, (Ts.getD q Tp.new).loose, true⟩), i ∈ lvi Ts ∧ (Ts.set q ⟨(Ts.getD q Tp.new).b, (Ts.getD q Tp.new).loose, true⟩).getD i Tp.new = Ts.getD i Tp.new := by
    intro i hi
    obtain ⟨h1, h2⟩ := lvi_mem hi
    by_cases e : q = i
    · subst e
      rw [show (Ts.set q ⟨(Ts.getD q Tp.new).b, (Ts.getD q Tp.new).loose, true⟩).getD q Tp.new = ⟨(Ts.getD q Tp.new).b, (Ts.getD q Tp.new).loose, true⟩ by rw [List.getD, List.getElem?_set_self (by omega)]; rfl] at h2
      cases h2
    · refine ⟨?_, by simp [List.getD, List.getElem?_set_ne e]⟩
      rw [h3]
      obtain rfl | rfl | rfl : i = 0 ∨ i = 1 ∨ i = 2 := by omega
      all_goals simp
  refine ⟨by rw [List.length_set]; exact a1, ?_, ?_, ?_⟩
  · match Ts, a1, h3 with
    | [T0, T1, T2], _, h3 =>
      have g : T0.gone = false ∧ T1.gone = false ∧ T2.gone = false := by
        have m0 := (lvi_mem (Ts := [T0, T1, T2]) (i := 0) (by rw [h3]; simp)).2
        have m1 := (lvi_mem (Ts := [T0, T1, T2]) (i := 1) (by rw [h3]; simp)).2
        have m2 := (lvi_mem (Ts := [T0, T1, T2]) (i := 2) (by rw [h3]; simp)).2
        exact ⟨m0, m1, m2⟩
      obtain ⟨g0, g1, g2⟩ := g
      obtain rfl | rfl | rfl : q = 0 ∨ q = 1 ∨ q = 2 := by omega
      all_goals simp [lvi, lvk, List.range, List.range.loop, List.filter, g0, g1, g2]
  · intro i hi
    obtain ⟨h1, h2⟩ := hl i hi
    rw [h2]
    exact a3 i h1
  · rcases a4 with h | ⟨h, h'⟩
    · exact .inl h
    · refine .inr ⟨h, fun i hi => ?_⟩
      obtain ⟨h1, h2⟩ := hl i hi
      rw [h2]
      exact h' i h1
theorem crs_live (L : List (List UInt8)) (r : List UInt8) (g0 g1 g2 : Bool) (n0 n1 n2 : Int) : lvi (crs (lt (jn L) (jn1 r) g0) (lt (jn L) (jn1 r) g1) (lt (jn L) (jn1 r) g2) n0 n1 n2 3) = [0, 1, 2] := by
  have e0 := (crash_lt L r g0 n0).1.1
  have e1 := (crash_lt L r g1 n1).1.1
  have e2 := (crash_lt L r g2 n2).1.1
  show lvi [tCrash _ n0, tCrash _ n1, tCrash _ n2] = _
  simp [lvi, lvk, List.range, List.range.loop, List.filter, e0, e1, e2]
/-- An opening, power there; told again, the same. -/
theorem kp_open (B : Nat) (w0 : World) (p0 p1 p2 : Nat) (x : Option Addr) (R : HP) {F : Option Fu} (hF : und F) {L : List (List UInt8)} (hL : ∀ x ∈ L, okr x) {r nx : List UInt8} (hr : okr r) {Ts : List Tp} (h : Kp L r nx Ts) (hl : (jn L).length + (jn1 r).length ≤ 65536) :
    ∃ f Ts', (f = false ∨ nx = r) ∧ Kp (L ++ tl f r) r [] Ts' ∧ (∀ e w', OpP B w0 x [p0, p1, p2] Ts F R e w' → OpYes B w0 x [p0, p1, p2] Ts' F (L ++ tl f r) R e w') := by
  have h' := h
  obtain ⟨a1, a2, a3, a4⟩ := h
  obtain ⟨Ts', b1, b2, b3, b4⟩ := open_tl B w0 p0 p1 p2 x R hF hL hr a1 a2 a3 hl
  refine ⟨two L r Ts (lvi Ts), Ts', ?_, ?_, fun e w' h => by rw [← b4]; exact h⟩
  · rcases a4 with h | ⟨h, -⟩
    · exact .inr h
    · subst h
      exact .inl (h'.two hr)
  · refine ⟨b1, by rw [b2]; exact a2, ?_, .inr ⟨rfl, ?_⟩⟩
    · intro i hi
      rw [b2] at hi
      rw [b3 i hi]
      exact ⟨rfl, rfl, 0, by simp [ft]⟩
    · intro i hi
      rw [b2] at hi
      rw [b3 i hi]
      rfl
end Go.Proofs.Ytkkkncchinejmaa.TrL
