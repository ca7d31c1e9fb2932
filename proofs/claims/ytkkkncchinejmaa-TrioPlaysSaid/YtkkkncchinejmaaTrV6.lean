/- The document's trio, walked: Open. No condition. -/
import Derived.Test.YtkkkncchinejmaaTrV5
set_option linter.unusedSimpArgs false
set_option linter.unusedVariables false
namespace Go.Proofs.Ytkkkncchinejmaa.TrV
open Go Go.RowKit Go.Proofs.Ytkkkncchinejmaa Go.Proofs.Ytkkkncchinejmaa.Sp Go.Proofs.Ytkkkncchinejmaa.Reg Go.Proofs.Ytkkkncchinejmaa.SlW Go.Proofs.Ytkkkncchinejmaa.Fus Go.Proofs.Ytkkkncchinejmaa.TrM Go.Proofs.Ytkkkncchinejmaa.TapW Go.Proofs.Ytkkkncchinejmaa.TapR Go.Proofs.Ytkkkncchinejmaa.TrW Go.Proofs.Ytkkkncchinejmaa.Str Go.Proofs.Ytkkkncchinejmaa.TrR
/-! ### plain -/
theorem cntIn_snoc (a : List (List UInt8)) (l : List (List (List UInt8))) (b best : List (List UInt8)) :
    cntIn a (l ++ [b]) best = if (cntIn a l best).length < al a b then a.take (al a b) else cntIn a l best := by
  unfold cntIn
  rw [List.foldl_append]
  rfl
theorem cntGo_snoc (a : List (List UInt8)) : ∀ (rest seen : List (List (List UInt8))) (best : List (List UInt8)), cntGo seen (rest ++ [a]) best = cntIn a (seen ++ rest) (cntGo seen rest best)
  | [], seen, best => by simp [cntGo]
  | b :: rest, seen, best => by
    show cntGo (seen ++ [b]) (rest ++ [a]) (cntIn b seen best) = _
    rw [cntGo_snoc a rest (seen ++ [b]), List.append_assoc]
    rfl
theorem cnt_snoc (a : List (List UInt8)) (l : List (List (List UInt8))) : cnt (l ++ [a]) = cntIn a l (cnt l) := by
  unfold cnt
  rw [cntGo_snoc, List.nil_append]
theorem rcs_snoc (Ts : List Tp) (l : List Nat) (i : Nat) : rcs Ts (l ++ [i]) = rcs Ts l ++ [spl (Ts.getD i Tp.new).b] := by simp [rcs]
theorem rcs_live {Ts : List Tp} {k : Nat} (h : (Ts.getD k Tp.new).gone = false) : rcs Ts (lvk Ts (k + 1)) = rcs Ts (lvk Ts k) ++ [spl (Ts.getD k Tp.new).b] := by
  rw [lvk_succ, if_pos h, rcs_snoc]
theorem rcs_gone {Ts : List Tp} {k : Nat} (h : (Ts.getD k Tp.new).gone = true) : rcs Ts (lvk Ts (k + 1)) = rcs Ts (lvk Ts k) := by
  rw [lvk_succ, if_neg (by rw [h]; simp)]
/-! ### rows of texts that are read -/
def SRd (B : Nat) (w0 : World) (X : HP) (v : Value) (l : List (List UInt8)) : Prop := ∀ w H, St B w0 w (H * X) → SL w v l
section
variable {B : Nat} {w0 : World} {R X Y : HP} {v : Value} {l : List (List UInt8)}
theorem SRd.nil : SRd B w0 X (.slice none 0 0) [] := fun w H s => ⟨none, 0, rfl, Nat.le_refl _, Nat.zero_le _, fun _ => rfl, .inl rfl⟩
theorem SRd.left (Y : HP) (h : SRd B w0 X v l) : SRd B w0 (Y * X) v l := fun w H s => h w (H * Y) (s.eq (sep_assoc _ _ _).symm)
theorem SRd.right (Y : HP) (h : SRd B w0 X v l) : SRd B w0 (X * Y) v l := fun w H s => h w (H * Y) (s.eq (by ac_rfl))
theorem srd_row {n : Nat} : SRd B w0 (row 9 1 v n (sv l)) v l := fun w H s => Str.St.sl l (s.eq (sep_comm _ _))
theorem sl_take {w : World} {a : Option Addr} {n c k : Nat} (h : SL w (.slice a n c) l) (hk : k ≤ l.length) : SL w (.slice a k c) (l.take k) := by
  obtain ⟨a', c', e, h1, h2, h3, h4⟩ := h
  cases e
  refine ⟨a, c, by rw [List.length_take, Nat.min_eq_left hk], by rw [List.length_take]; omega, h2, h3, ?_⟩
  have q := h4.sub 0 k a (fun _ => by cases a <;> simp [Addr.add])
  have e : sv (l.take k) = ((sv l).drop 0).take k := by simp [sv]
  rw [e]; exact q
theorem SRd.take {a : Option Addr} {n c k : Nat} (h : SRd B w0 X (.slice a n c) l) (hk : k ≤ l.length) : SRd B w0 X (.slice a k c) (l.take k) := fun w H s => sl_take (h w H s) hk
end
/-! ### cut -/
theorem cut_some (F : Fu) (T : Tp) (n : Int) : (tCut (some F) T n).2.1 = some ((tCut (some F) T n).2.1.getD F) := by
  unfold tCut; repeat (first | split | rfl)
theorem cut_left {F : Fu} (h : F.left ≤ 9223372036854775807) (T : Tp) (n : Int) : ((tCut (some F) T n).2.1.getD F).left ≤ 9223372036854775807 := by
  unfold tCut
  split
  · exact h
  · split
    · exact h
    · split
      · exact h
      · exact spend_left h
theorem cut_ok {T : Tp} (h : T.ok) (F : Option Fu) (n : Int) : (tCut F T n).2.2.ok := by
  unfold tCut
  split
  · exact h
  · split
    · exact h
    · split
      · exact h
      · refine ⟨Nat.zero_le _, ?_⟩
        have := h.2
        simp only [List.length_take]
        omega
theorem Rok.cut {Ts : List Tp} {F : Fu} (h : Rok Ts F) (k : Nat) (hk : k < 3) (n : Int) : Rok (Ts.set k (tCut (some F) (Ts.getD k Tp.new) n).2.2) ((tCut (some F) (Ts.getD k Tp.new) n).2.1.getD F) :=
  h.set k hk (cut_ok (h.ok k) _ _) (cut_left h.left _ _)
section
variable {B : Nat} {w0 w : World} {R : HP} {fb b p0 p1 p2 n : Nat} {Ts : List Tp} {F : Fu}
theorem rtcu_calls (fb : Nat) (ps : List Nat) (Ts : List Tp) (i : Nat) (f : Fu) (m : Int) (hl : f.left ≤ 9223372036854775807) (hok : (Ts.getD i Tp.new).ok) (h1 : i < ps.length) (h2 : i < Ts.length) (w : World)
    (s : St B w0 w (rtps (.pointer (some ⟨fb, 0, none⟩)) ps Ts * (rfz fb f * R))) :
    Calls Try.prog 55 #[pp (ps.getD i 0), .int .i64 m] w (RetS B w0 (rtps (.pointer (some ⟨fb, 0, none⟩)) ps (Ts.set i (tCut (some f) (Ts.getD i Tp.new) m).2.2) * (rfz fb ((tCut (some f) (Ts.getD i Tp.new) m).2.1.getD f) * R)) (.int .i64 (tCut (some f) (Ts.getD i Tp.new) m).1)) :=
  (rcut_calls f _ m _ fb w (R := rtps (.pointer (some ⟨fb, 0, none⟩)) (ps.eraseIdx i) (Ts.eraseIdx i) * R) hok hl ((rtps_out (get_p h1) (get_T h2) s).eq (by ac_rfl))).mono fun _ _ ⟨e, s⟩ => ⟨e, rtps_in (get_p h1) h2 (s.eq (by ac_rfl))⟩
theorem hr_cut (w : World) (k : Nat) (hk : k < 3) (h : Rok Ts F) (m : Int) (s : St B w0 w (Hr fb b p0 p1 p2 n Ts F R)) :
    Calls Try.prog 55 #[pp ([p0, p1, p2].getD k 0), .int .i64 m] w (RetS B w0 (Hr fb b p0 p1 p2 n (Ts.set k (tCut (some F) (Ts.getD k Tp.new) m).2.2) ((tCut (some F) (Ts.getD k Tp.new) m).2.1.getD F) R) (.int .i64 (tCut (some F) (Ts.getD k Tp.new) m).1)) :=
  (rtcu_calls fb [p0, p1, p2] Ts k F m h.left (h.ok k) (by simpa using hk) (by rw [h.len]; exact hk) w (hr_t s)).mono fun _ _ ⟨h1, h2⟩ => ⟨h1, hr_back h2⟩
end
theorem set_self {Ts : List Tp} {k : Nat} (hk : k < Ts.length) (T : Tp) : (Ts.set k T).getD k Tp.new = T := by rw [set_at hk, if_pos rfl]
/-- A tape's bytes made some, by the three calls. -/
theorem write_cut {F : Option Fu} {T : Tp} {keep : Nat} {b : List UInt8} {e : Int} {F1 : Option Fu} {T1 : Tp} (h : tCut F T keep = (e, F1, T1)) :
    tWrite F T keep b = if e = 0 then (if (tApp F1 T1 (b.drop keep)).1 = 0 then ((tSync (tApp F1 T1 (b.drop keep)).2.1 (tApp F1 T1 (b.drop keep)).2.2).1, (tApp F1 T1 (b.drop keep)).2.1, (tSync (tApp F1 T1 (b.drop keep)).2.1 (tApp F1 T1 (b.drop keep)).2.2).2) else tApp F1 T1 (b.drop keep)) else (e, F1, T1) := by
  unfold tWrite
  rw [h]
theorem opK_live {F : Option Fu} {Ts Ts0 : List Tp} {k : Nat} {bs : List (List UInt8)} (hk : k < 3) (h0 : (Ts0.getD k Tp.new).gone = false) {e : Int} {F1 : Option Fu} {T1 : Tp} {m : Nat} (hm : (jn (bs.take (al (spl (Ts.getD k Tp.new).b) bs))).length = m) (hne : (Ts.getD k Tp.new).b ≠ jn bs) (hW : tWrite F (Ts.getD k Tp.new) m (jn bs) = (e, F1, T1)) :
    opK F Ts (lvf Ts0 k) bs = if e = 0 then opK F1 (Ts.set k T1) (lvf Ts0 (k + 1)) bs else (e, F1, Ts.set k T1) := by
  rw [lvf_step Ts0 k hk, if_pos h0]
  show (if (Ts.getD k Tp.new).b = jn bs then _ else _) = _
  rw [if_neg hne, hm, hW]
theorem opK_same {F : Option Fu} {Ts Ts0 : List Tp} {k : Nat} {bs : List (List UInt8)} (hk : k < 3) (h0 : (Ts0.getD k Tp.new).gone = false) (he : (Ts.getD k Tp.new).b = jn bs) : opK F Ts (lvf Ts0 k) bs = opK F Ts (lvf Ts0 (k + 1)) bs := by
  rw [lvf_step Ts0 k hk, if_pos h0]
  show (if (Ts.getD k Tp.new).b = jn bs then _ else _) = _
  rw [if_pos he]
/-! ### Open -/
def ROpNo (B : Nat) (w0 : World) (fb p0 p1 p2 : Nat) (Ts : List Tp) (F : Fu) (n : Int) (R : HP) (e : Ending) (w' : World) : Prop :=
  e = .returned (.tuple #[.pointer none, .slice none 0 0, .int .i64 n]) ∧ St B w0 w' (rtps (.pointer (some ⟨fb, 0, none⟩)) [p0, p1, p2] Ts * (rfz fb F * R))
def ROpYes (B : Nat) (w0 : World) (fb p0 p1 p2 : Nat) (Ts : List Tp) (F : Fu) (recs : List (List UInt8)) (R : HP) (e : Ending) (w' : World) : Prop :=
  ∃ X b v, e = .returned (.tuple #[pp b, v, .int .i64 0]) ∧ SRd B w0 X v recs ∧ St B w0 w' (Hr fb b p0 p1 p2 recs.length Ts F (X * R))
def ROpP (B : Nat) (w0 : World) (fb p0 p1 p2 : Nat) (Ts : List Tp) (F : Fu) (R : HP) (e : Ending) (w' : World) : Prop :=
  if (lvi Ts).length < 2 then ROpNo B w0 fb p0 p1 p2 Ts F 8 R e w'
  else if (opK (some F) Ts (lvi Ts) (best Ts)).1 = 0 then ROpYes B w0 fb p0 p1 p2 (opK (some F) Ts (lvi Ts) (best Ts)).2.2 ((opK (some F) Ts (lvi Ts) (best Ts)).2.1.getD F) (best Ts) R e w'
  else ROpNo B w0 fb p0 p1 p2 (opK (some F) Ts (lvi Ts) (best Ts)).2.2 ((opK (some F) Ts (lvi Ts) (best Ts)).2.1.getD F) (opK (some F) Ts (lvi Ts) (best Ts)).1 R e w'
theorem hr_no {B : Nat} {w0 w : World} {R : HP} {fb b p0 p1 p2 n : Nat} {Ts : List Tp} {F : Fu} {Z : HP} (s : St B w0 w (Hr fb b p0 p1 p2 n Ts F (Z * R))) : St B w0 w (rtps (.pointer (some ⟨fb, 0, none⟩)) [p0, p1, p2] Ts * (rfz fb F * R)) :=
  (s.eq (Q := rtro b p0 p1 p2 n * (Z * (rtps (.pointer (some ⟨fb, 0, none⟩)) [p0, p1, p2] Ts * (rfz fb F * R)))) (by unfold Hr; ac_rfl)).right.right
theorem hr_x {B : Nat} {w0 w : World} {R Z : HP} {fb b p0 p1 p2 n : Nat} {Ts : List Tp} {F : Fu} (s : St B w0 w (Z * Hr fb b p0 p1 p2 n Ts F R)) : St B w0 w (Hr fb b p0 p1 p2 n Ts F (Z * R)) := s.eq (by unfold Hr; ac_rfl)
theorem hr_y {B : Nat} {w0 w : World} {R Z : HP} {fb b p0 p1 p2 n : Nat} {Ts : List Tp} {F : Fu} (s : St B w0 w (Hr fb b p0 p1 p2 n Ts F (Z * R))) : St B w0 w (Z * Hr fb b p0 p1 p2 n Ts F R) := s.eq (by unfold Hr; ac_rfl)
theorem hr_q {B : Nat} {w0 w : World} {R : HP} {fb b q p0 p1 p2 n : Nat} {Ts : List Tp} {F : Fu} {t : TypeId} {Z : HP} (s : St B w0 w (Hr fb b p0 p1 p2 n Ts F (Z * (pts q (.cells #[pp p0, pp p1, pp p2] t) * R)))) (k : Nat) (hk : k < 3) : w.cell? ⟨q, k, none⟩ = some (pp ([p0, p1, p2].getD k 0)) := by
  have s1 : St B w0 w (pts q (.cells #[pp p0, pp p1, pp p2] t) * (Z * Hr fb b p0 p1 p2 n Ts F R)) := s.eq (by unfold Hr; ac_rfl)
  obtain rfl | rfl | rfl : k = 0 ∨ k = 1 ∨ k = 2 := by omega
  · exact St.cell s1 0
  · exact St.cell s1 1
  · exact St.cell s1 2
end Go.Proofs.Ytkkkncchinejmaa.TrV
