/- TrioOpens: the last record on some tapes in part. Plain. No condition. -/
import Derived.Test.YtkkkncchinejmaaTrQ
namespace Go.Proofs.Ytkkkncchinejmaa.TrL
open Go Go.RowKit Go.Proofs.Ytkkkncchinejmaa Go.Proofs.Ytkkkncchinejmaa.Sp Go.Proofs.Ytkkkncchinejmaa.Fus Go.Proofs.Ytkkkncchinejmaa.TrM Go.Proofs.Ytkkkncchinejmaa.TapW Go.Proofs.Ytkkkncchinejmaa.TrW
theorem app_und {F : Option Fu} (hF : und F) (c : List UInt8) (n : Nat) (r : List UInt8) (h : okr r) (hl : c.length + (r.length + 1) ≤ 65536) :
    trApp F (fam 3 c []) n r = (0, F, fam 3 (c ++ jn1 r) [], n + 1) := by
  obtain ⟨f1, f2⟩ := hF
  obtain ⟨h1, h2⟩ := h
  have e1 : ¬ (r.length < 1 ∨ 250 < r.length) := by omega
  have e4 : tApp F (ft c false) (jn1 r) = (0, F, ⟨c ++ jn1 r, (jn1 r).length, false⟩) := by
    simp [tApp, ft, f1, f2, jn1_len]; omega
  have e7 : ∀ x, tSync F ⟨x, (jn1 r).length, false⟩ = (0, ft x false) := fun x => by
    simp [tSync, f1, ft]
  have e2 : lvi (fam 3 c []) = [0, 1, 2] := rfl
  unfold trApp
  rw [if_neg e1, e2, if_neg (by simp), if_neg (by simp [fullK, fam, ft]; omega)]
  simp [apK, syK, fam, e4, e7, bd]
theorem tapp_und {F : Option Fu} (hF : und F) (c x : List UInt8) (hl : c.length + x.length ≤ 65536) : tApp F (ft c false) x = (0, F, ⟨c ++ x, x.length, false⟩) := by
  obtain ⟨f1, f2⟩ := hF
  simp [tApp, ft, f1, f2]; omega
theorem tsync_und {F : Option Fu} (hF : und F) (x : List UInt8) (n : Nat) : tSync F ⟨x, n, false⟩ = (0, ft x false) := by
  obtain ⟨f1, f2⟩ := hF
  simp [tSync, f1, ft]
/-- The first j tapes have a part of the last record. -/
def prs (L : List (List UInt8)) (r : List UInt8) (m0 m1 m2 j : Nat) : List Tp :=
  [if 0 < j then ft (jn L ++ (jn1 r).take m0) false else ft (jn L) false, if 1 < j then ft (jn L ++ (jn1 r).take m1) false else ft (jn L) false, if 2 < j then ft (jn L ++ (jn1 r).take m2) false else ft (jn L) false]
theorem prs_len (L : List (List UInt8)) (r : List UInt8) (m0 m1 m2 j : Nat) : (prs L r m0 m1 m2 j).length = 3 := rfl
theorem prs_get (L : List (List UInt8)) (r : List UInt8) (m0 m1 m2 j : Nat) (hj : j < 3) : (prs L r m0 m1 m2 j).getD j Tp.new = ft (jn L) false := by
  obtain rfl | rfl | rfl : j = 0 ∨ j = 1 ∨ j = 2 := by omega
  all_goals rfl
theorem prs_set (L : List (List UInt8)) (r : List UInt8) (m0 m1 m2 j : Nat) (hj : j < 3) (T : Tp) : ((prs L r m0 m1 m2 j).set j T).set j (ft (jn L ++ (jn1 r).take ([m0, m1, m2].getD j 0)) false) = prs L r m0 m1 m2 (j + 1) := by
  obtain rfl | rfl | rfl : j = 0 ∨ j = 1 ∨ j = 2 := by omega
  all_goals rfl
theorem prs_set_get (L : List (List UInt8)) (r : List UInt8) (m0 m1 m2 j : Nat) (hj : j < 3) (T : Tp) : ((prs L r m0 m1 m2 j).set j T).getD j Tp.new = T := by
  obtain rfl | rfl | rfl : j = 0 ∨ j = 1 ∨ j = 2 := by omega
  all_goals rfl
/-- How many of the first j are whole. -/
def wh (n m0 m1 m2 j : Nat) : Nat := (if 0 < j ∧ m0 = n then 1 else 0) + (if 1 < j ∧ m1 = n then 1 else 0) + (if 2 < j ∧ m2 = n then 1 else 0)
theorem wh_step (n m0 m1 m2 j : Nat) (hj : j < 3) : wh n m0 m1 m2 (j + 1) = wh n m0 m1 m2 j + if [m0, m1, m2].getD j 0 = n then 1 else 0 := by
  unfold wh
  obtain rfl | rfl | rfl : j = 0 ∨ j = 1 ∨ j = 2 := by omega
  all_goals simp
theorem wh_le (n m0 m1 m2 j : Nat) : wh n m0 m1 m2 j ≤ 3 := by
  unfold wh
  split <;> split <;> split <;> omega
theorem pr_gd (L : List (List UInt8)) (r : List UInt8) (m : Nat) : Gd L r (ft (jn L ++ (jn1 r).take m) false) :=
  ⟨rfl, ⟨m, rfl⟩, by show _ + 0 ≤ (jn L ++ (jn1 r).take m).length; rw [List.length_append]; omega⟩
theorem pr_tf (L : List (List UInt8)) (r : List UInt8) (m : Nat) (hm : m ≤ (jn1 r).length) : TF L r (ft (jn L ++ (jn1 r).take m) false) = decide (m = (jn1 r).length) := by
  unfold TF
  rw [decide_eq_decide]
  show jn L ++ (jn1 r).take m = jn L ++ jn1 r ↔ _
  rw [List.append_cancel_left_eq]
  constructor
  · intro e
    have := congrArg List.length e
    rw [List.length_take] at this
    omega
  · intro e
    rw [e, List.take_length]
theorem prs_iv (L : List (List UInt8)) (r : List UInt8) (m0 m1 m2 : Nat) (h0 : m0 ≤ (jn1 r).length) (h1 : m1 ≤ (jn1 r).length) (h2 : m2 ≤ (jn1 r).length) :
    Iv L r (decide (2 ≤ wh (jn1 r).length m0 m1 m2 3)) (prs L r m0 m1 m2 3) := by
  refine ⟨_, _, _, rfl, pr_gd L r m0, pr_gd L r m1, pr_gd L r m2, ?_⟩
  have t0 := pr_tf L r m0 h0
  have t1 := pr_tf L r m1 h1
  have t2 := pr_tf L r m2 h2
  have s : ∀ m, m ≤ (jn1 r).length → sN L r (ft (jn L ++ (jn1 r).take m) false) = if m = (jn1 r).length then 1 else 0 := fun m hm => by
    unfold sN
    rw [pr_tf L r m hm]
    simp [ft]
  have w : ∀ m, m ≤ (jn1 r).length → wN L r (ft (jn L ++ (jn1 r).take m) false) = if m = (jn1 r).length then 1 else 0 := fun m hm => by
    unfold wN
    rw [pr_tf L r m hm]
    simp
  have e : wh (jn1 r).length m0 m1 m2 3 = (if m0 = (jn1 r).length then 1 else 0) + (if m1 = (jn1 r).length then 1 else 0) + (if m2 = (jn1 r).length then 1 else 0) := by
    unfold wh; simp
  show Cn L r _ (ft _ _) (ft _ _) (ft _ _)
  cases hd : decide (2 ≤ wh (jn1 r).length m0 m1 m2 3) with
  | true =>
    have := of_decide_eq_true hd
    show 2 ≤ sN _ _ _ + sN _ _ _ + sN _ _ _
    rw [s m0 h0, s m1 h1, s m2 h2]
    omega
  | false =>
    have := of_decide_eq_false hd
    show wN _ _ _ + wN _ _ _ + wN _ _ _ ≤ 1
    rw [w m0 h0, w m1 h1, w m2 h2]
    omega
/-- The last opening, power there. -/
theorem open_last (B : Nat) (w0 : World) (p0 p1 p2 : Nat) (x : Option Addr) (R : HP) {F : Option Fu} (hF : und F) {L : List (List UInt8)} (hL : ∀ x ∈ L, okr x) {r : List UInt8} (hr : okr r) {f : Bool} {Ts : List Tp} (h : Iv L r f Ts) (hy : ∀ i, i < 3 → TY L r (Ts.getD i Tp.new)) (hl : (jn L).length + (jn1 r).length ≤ 65536) :
    ∃ Ts', ∀ e w', OpP B w0 x [p0, p1, p2] Ts F R e w' → OpYes B w0 x [p0, p1, p2] Ts' F (L ++ tl f r) R e w' := by
  have hlv := h.live
  have hT : Ts.length = 3 := by obtain ⟨_, _, _, rfl, -⟩ := h; rfl
  obtain ⟨Ts', -, -, -, h4⟩ := open_tl B w0 p0 p1 p2 x R hF hL hr hT (by rw [hlv]; simp) (fun i hi => hy i (lvi_mem hi).1) hl
  rw [hlv, h.two] at h4
  exact ⟨Ts', fun e w' h => by rw [← h4]; exact h⟩
theorem prs_ty (L : List (List UInt8)) (r : List UInt8) (m0 m1 m2 : Nat) (i : Nat) (hi : i < 3) : TY L r ((prs L r m0 m1 m2 3).getD i Tp.new) := by
  obtain rfl | rfl | rfl : i = 0 ∨ i = 1 ∨ i = 2 := by omega
  · exact ⟨rfl, rfl, m0, rfl⟩
  · exact ⟨rfl, rfl, m1, rfl⟩
  · exact ⟨rfl, rfl, m2, rfl⟩
theorem Iv.crash_ty {L : List (List UInt8)} {r : List UInt8} {f : Bool} {T0 T1 T2 : Tp} (h : Iv L r f [T0, T1, T2]) (n0 n1 n2 : Int) (i : Nat) (hi : i < 3) : TY L r ((crs T0 T1 T2 n0 n1 n2 3).getD i Tp.new) := by
  obtain ⟨_, _, _, e, g0, g1, g2, hc⟩ := h
  cases e
  obtain rfl | rfl | rfl : i = 0 ∨ i = 1 ∨ i = 2 := by omega
  · exact (crash_gd g0 n0 f).1
  · exact (crash_gd g1 n1 f).1
  · exact (crash_gd g2 n2 f).1
theorem lt_len (L : List (List UInt8)) (r : List UInt8) (f : Bool) : (L ++ tl f r).length = L.length + if f then 1 else 0 := by
  cases f <;> simp [tl]
end Go.Proofs.Ytkkkncchinejmaa.TrL
