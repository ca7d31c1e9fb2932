/- Three tapes behind a crash: what counts, and what an opening makes of them. Plain. No condition. -/
import Derived.Test.YtkkkncchinejmaaTrL6
namespace Go.Proofs.Ytkkkncchinejmaa.TrL
open Go Go.RowKit Go.Proofs.Ytkkkncchinejmaa Go.Proofs.Ytkkkncchinejmaa.Sp Go.Proofs.Ytkkkncchinejmaa.Fus Go.Proofs.Ytkkkncchinejmaa.TrM Go.Proofs.Ytkkkncchinejmaa.TapW Go.Proofs.Ytkkkncchinejmaa.TrW
/-- The last record, or none. -/
def tl (f : Bool) (r : List UInt8) : List (List UInt8) := if f then [r] else []
theorem al_tl (L : List (List UInt8)) (r : List UInt8) (f g : Bool) : al (L ++ tl f r) (L ++ tl g r) = L.length + if f && g then 1 else 0 := by
  rw [al_pre]
  cases f <;> cases g <;> simp [tl, al]
theorem take_tl (L : List (List UInt8)) (r : List UInt8) (f : Bool) (n : Nat) : (L ++ tl f r).take (L.length + n) = L ++ (tl f r).take n := by
  rw [List.take_length_add_append]
theorem cnt_two (L : List (List UInt8)) (r : List UInt8) (f g : Bool) : cnt [L ++ tl f r, L ++ tl g r] = L ++ tl (f && g) r := by
  rw [cnt2, al_tl, take_tl]
  cases f <;> cases g <;> simp [tl]
theorem cnt_three (L : List (List UInt8)) (r : List UInt8) (f g h : Bool) : cnt [L ++ tl f r, L ++ tl g r, L ++ tl h r] = L ++ tl (f && g || f && h || g && h) r := by
  have h1 : cntIn (L ++ tl g r) [L ++ tl f r] [] = L ++ tl (f && g) r := by
    have := cnt_two L r f g
    exact this
  show cntIn (L ++ tl h r) [L ++ tl f r, L ++ tl g r] (cntIn (L ++ tl g r) [L ++ tl f r] []) = _
  rw [h1, cntIn_cons, cntIn_cons]
  show (if (if (L ++ tl (f && g) r).length < al (L ++ tl h r) (L ++ tl f r) then (L ++ tl h r).take (al (L ++ tl h r) (L ++ tl f r)) else L ++ tl (f && g) r).length < al (L ++ tl h r) (L ++ tl g r) then (L ++ tl h r).take (al (L ++ tl h r) (L ++ tl g r)) else _) = _
  rw [al_tl, al_tl, take_tl, take_tl]
  have q : ¬ (L.length + 1 < L.length) := by omega
  cases f <;> cases g <;> cases h <;> simp [tl, q]
/-- Bytes behind a crash: all records, and a beginning of one more; is it all there? -/
def full (r y : List UInt8) : Bool := decide (y = jn1 r)
theorem spl_y {L : List (List UInt8)} (hL : ∀ x ∈ L, okr x) {r : List UInt8} (hr : okr r) {k : Nat} : spl (jn L ++ (jn1 r).take k) = L ++ tl (full r ((jn1 r).take k)) r := by
  rw [spl_jn hL]
  congr 1
  by_cases h : k < (jn1 r).length
  · rw [spl_part hr h]
    have : (jn1 r).take k ≠ jn1 r := by
      intro e
      have := congrArg List.length e
      rw [List.length_take] at this
      omega
    simp [full, this, tl]
  · rw [List.take_of_length_le (by omega)]
    have := spl_jn1 hr []
    rw [List.append_nil] at this
    rw [this]
    simp [full, tl, spl_nil]
/-- A tape behind a crash. -/
def TY (L : List (List UInt8)) (r : List UInt8) (T : Tp) : Prop := T.gone = false ∧ T.loose = 0 ∧ ∃ k, T.b = jn L ++ (jn1 r).take k
def TF (L : List (List UInt8)) (r : List UInt8) (T : Tp) : Bool := decide (T.b = jn L ++ jn1 r)
theorem TY.spl {L : List (List UInt8)} (hL : ∀ x ∈ L, okr x) {r : List UInt8} (hr : okr r) {T : Tp} (h : ∃ k, T.b = jn L ++ (jn1 r).take k) : spl T.b = L ++ tl (TF L r T) r := by
  obtain ⟨k, e⟩ := h
  rw [e, spl_y hL hr]
  congr 2
  simp only [full, TF, e, List.append_cancel_left_eq]
/-- How many are whole. -/
def two (L : List (List UInt8)) (r : List UInt8) (Ts : List Tp) (l : List Nat) : Bool := decide (2 ≤ (l.filter fun i => TF L r (Ts.getD i Tp.new)).length)
theorem best_tl {Ts : List Tp} {L : List (List UInt8)} (hL : ∀ x ∈ L, okr x) {r : List UInt8} (hr : okr r) (h2 : ¬ (lvi Ts).length < 2) (h : ∀ i ∈ lvi Ts, ∃ k, (Ts.getD i Tp.new).b = jn L ++ (jn1 r).take k) :
    best Ts = L ++ tl (two L r Ts (lvi Ts)) r := by
  have hs := fun i hi => TY.spl hL hr (h i hi)
  unfold best
  have e : rcs Ts (lvi Ts) = (lvi Ts).map fun i => L ++ tl (TF L r (Ts.getD i Tp.new)) r := by
    unfold rcs
    exact List.map_congr_left hs
  rw [e]
  unfold two
  generalize hg : (fun i => TF L r (Ts.getD i Tp.new)) = g
  have e2 : ((lvi Ts).map fun i => L ++ tl (TF L r (Ts.getD i Tp.new)) r) = (lvi Ts).map fun i => L ++ tl (g i) r := by rw [← hg]
  rw [e2]
  have hl := lvi_len Ts
  generalize lvi Ts = l at *
  match l, h2, hl with
  | [a, b], _, _ =>
    simp only [List.map_cons, List.map_nil, cnt_two]
    cases ha : g a <;> cases hb : g b <;> simp [List.filter, ha, hb]
  | [a, b, c], _, _ =>
    simp only [List.map_cons, List.map_nil, cnt_three]
    cases ha : g a <;> cases hb : g b <;> cases hc : g c <;> simp [List.filter, ha, hb, hc]
  | [], h, _ => exact absurd (by simp) h
  | [_], h, _ => exact absurd (by simp) h
  | _ :: _ :: _ :: _ :: _, _, h => exact absurd h (by simp)
theorem jn_snoc (L : List (List UInt8)) (r : List UInt8) : jn (L ++ [r]) = jn L ++ jn1 r := by rw [jn_append, jn_one]
/-- Of what a tape keeps while it is mended. -/
theorem keep_tl {L : List (List UInt8)} (hL : ∀ x ∈ L, okr x) {r : List UInt8} (hr : okr r) {T : Tp} (h : ∃ k, T.b = jn L ++ (jn1 r).take k) (f : Bool) (hne : T.b ≠ jn (L ++ tl f r)) :
    (jn ((L ++ tl f r).take (al (spl T.b) (L ++ tl f r)))).length = (jn L).length := by
  rw [TY.spl hL hr h, al_tl, take_tl]
  have e : (TF L r T && f) = false := by
    cases f with
    | false => simp
    | true =>
      have : TF L r T = false := by
        unfold TF
        exact decide_eq_false (by intro e; exact hne (by rw [e]; simp [tl, jn_snoc]))
      rw [this]; rfl
  rw [e]
  simp
/-- An undying Fuse. -/
def und (F : Option Fu) : Prop := fdead F = false ∧ fspend F = F
theorem und_none : und none := ⟨rfl, rfl⟩
theorem und_zero : und (some (Fu.new 0)) := ⟨rfl, rfl⟩
/-- A tape mended, power there. -/
theorem write_tl {F : Option Fu} (hF : und F) {L : List (List UInt8)} {r : List UInt8} {T : Tp} (hg : T.gone = false) (h : ∃ k, T.b = jn L ++ (jn1 r).take k) (f : Bool) (hl : (jn (L ++ tl f r)).length ≤ 65536) :
    tWrite F T (jn L).length (jn (L ++ tl f r)) = (0, F, ft (jn (L ++ tl f r)) false) := by
  obtain ⟨k, e⟩ := h
  obtain ⟨b, lo, g⟩ := T
  simp only at hg e
  subst hg
  subst e
  obtain ⟨h1, h2⟩ := hF
  have e1 : tCut F ⟨jn L ++ (jn1 r).take k, lo, false⟩ (jn L).length = (0, F, ⟨jn L, 0, false⟩) := by
    unfold tCut
    rw [if_neg (by simp), if_neg (by simp; omega), if_neg (by rw [h1]; simp), h2]
    simp
  have e3 : jn L ++ (jn (L ++ tl f r)).drop (jn L).length = jn (L ++ tl f r) := by
    rw [jn_append, List.drop_left]
  have e4 : (jn L).length + ((jn (L ++ tl f r)).drop (jn L).length).length = (jn (L ++ tl f r)).length := by
    rw [← List.length_append, e3]
  have e2 : tApp F ⟨jn L, 0, false⟩ ((jn (L ++ tl f r)).drop (jn L).length) = (0, F, ⟨jn (L ++ tl f r), ((jn (L ++ tl f r)).drop (jn L).length).length, false⟩) := by
    unfold tApp
    rw [if_neg (by simp), if_neg (by simp only; omega), if_neg (by rw [h1]; simp), h2]
    simp only [Nat.zero_add, e3]
  have e5 : ∀ x n, tSync F ⟨x, n, false⟩ = (0, ft x false) := fun x n => by
    unfold tSync
    rw [if_neg (by simp), if_neg (by rw [h1]; simp)]
    rfl
  unfold tWrite
  rw [e1]
  simp only [if_true, e2, e5]
/-- What an opening makes of the tapes, power there. -/
theorem opK_tl {F : Option Fu} (hF : und F) {L : List (List UInt8)} (hL : ∀ x ∈ L, okr x) {r : List UInt8} (hr : okr r) (f : Bool) (hl : (jn (L ++ tl f r)).length ≤ 65536) : ∀ (l : List Nat) (Ts : List Tp), (∀ i ∈ l, i < Ts.length ∧ TY L r (Ts.getD i Tp.new)) →
    ∃ Ts', opK F Ts l (L ++ tl f r) = (0, F, Ts') ∧ Ts'.length = Ts.length ∧ (∀ i ∈ l, Ts'.getD i Tp.new = ft (jn (L ++ tl f r)) false) ∧ ∀ i, i ∉ l → Ts'.getD i Tp.new = Ts.getD i Tp.new
  | [], Ts, _ => ⟨Ts, rfl, rfl, by simp, fun _ _ => rfl⟩
  | i :: l, Ts, h => by
    obtain ⟨hi, hg, hlo, k, hb⟩ := h i (by simp)
    by_cases hd : i ∈ l
    · -- met again: what is done now stays in form
      by_cases he : (Ts.getD i Tp.new).b = jn (L ++ tl f r)
      · obtain ⟨Ts', e1, e2, e3, e4⟩ := opK_tl hF hL hr f hl l Ts fun j hj => h j (by simp [hj])
        refine ⟨Ts', by simp only [opK]; rw [if_pos he, e1], e2, fun j hj => ?_, fun j hj => e4 j fun h => hj (by simp [h])⟩
        rcases List.mem_cons.1 hj with rfl | hj
        · exact e3 _ hd
        · exact e3 j hj
      · have hk := keep_tl hL hr ⟨k, hb⟩ f he
        have hw := write_tl hF hg ⟨k, hb⟩ f hl
        obtain ⟨Ts', e1, e2, e3, e4⟩ := opK_tl hF hL hr f hl l (Ts.set i (ft (jn (L ++ tl f r)) false)) fun j hj => by
          obtain ⟨h1, h2⟩ := h j (by simp [hj])
          refine ⟨by rw [List.length_set]; exact h1, ?_⟩
          by_cases e : i = j
          · subst e
            rw [show (Ts.set i (ft (jn (L ++ tl f r)) false)).getD i Tp.new = ft (jn (L ++ tl f r)) false by simp [List.getD, h1]]
            refine ⟨rfl, rfl, if f then (jn1 r).length else 0, ?_⟩
            show jn (L ++ tl f r) = _
            cases f <;> simp [tl, jn_snoc]
          · rw [show (Ts.set i (ft (jn (L ++ tl f r)) false)).getD j Tp.new = Ts.getD j Tp.new by simp [List.getD, List.getElem?_set_ne e]]
            exact h2
        refine ⟨Ts', ?_, by rw [e2, List.length_set], fun j hj => ?_, fun j hj => ?_⟩
        · simp only [opK]
          rw [if_neg he, hk, hw]
          simp only [if_true]
          exact e1
        · rcases List.mem_cons.1 hj with rfl | hj
          · exact e3 _ hd
          · exact e3 j hj
        · rw [e4 j fun h => hj (by simp [h])]
          have : i ≠ j := by rintro rfl; exact hj (by simp)
          simp [List.getD, List.getElem?_set_ne this]
    · by_cases he : (Ts.getD i Tp.new).b = jn (L ++ tl f r)
      · obtain ⟨Ts', e1, e2, e3, e4⟩ := opK_tl hF hL hr f hl l Ts fun j hj => h j (by simp [hj])
        refine ⟨Ts', by simp only [opK]; rw [if_pos he, e1], e2, fun j hj => ?_, fun j hj => e4 j fun h => hj (by simp [h])⟩
        rcases List.mem_cons.1 hj with rfl | hj
        · rw [e4 _ hd]
          generalize Ts.getD _ Tp.new = T at *
          obtain ⟨b, lo, g⟩ := T
          simp only at hg hlo he
          subst hg; subst hlo; subst he
          rfl
        · exact e3 j hj
      · have hk := keep_tl hL hr ⟨k, hb⟩ f he
        have hw := write_tl hF hg ⟨k, hb⟩ f hl
        obtain ⟨Ts', e1, e2, e3, e4⟩ := opK_tl hF hL hr f hl l (Ts.set i (ft (jn (L ++ tl f r)) false)) fun j hj => by
          obtain ⟨h1, h2⟩ := h j (by simp [hj])
          have e : i ≠ j := by rintro rfl; exact hd hj
          refine ⟨by rw [List.length_set]; exact h1, ?_⟩
          rw [show (Ts.set i (ft (jn (L ++ tl f r)) false)).getD j Tp.new = Ts.getD j Tp.new by simp [List.getD, List.getElem?_set_ne e]]
          exact h2
        refine ⟨Ts', ?_, by rw [e2, List.length_set], fun j hj => ?_, fun j hj => ?_⟩
        · simp only [opK]
          rw [if_neg he, hk, hw]
          simp only [if_true]
          exact e1
        · rcases List.mem_cons.1 hj with rfl | hj
          · rw [e4 _ hd]
            simp [List.getD, hi]
          · exact e3 j hj
        · rw [e4 j fun h => hj (by simp [h])]
          have : i ≠ j := by rintro rfl; exact hj (by simp)
          simp [List.getD, List.getElem?_set_ne this]
/-- An opening, power there: what it tells, and the tapes behind it. -/
theorem open_tl (B : Nat) (w0 : World) (p0 p1 p2 : Nat) (x : Option Addr) (R : HP) {F : Option Fu} (hF : und F) {L : List (List UInt8)} (hL : ∀ x ∈ L, okr x) {r : List UInt8} (hr : okr r) {Ts : List Tp} (hT : Ts.length = 3) (h2 : ¬ (lvi Ts).length < 2) (h : ∀ i ∈ lvi Ts, TY L r (Ts.getD i Tp.new))
    (hl : (jn L).length + (jn1 r).length ≤ 65536) : ∃ Ts', Ts'.length = 3 ∧ lvi Ts' = lvi Ts ∧ (∀ i ∈ lvi Ts, Ts'.getD i Tp.new = ft (jn (L ++ tl (two L r Ts (lvi Ts)) r)) false) ∧
      ∀ e w', OpP B w0 x [p0, p1, p2] Ts F R e w' = OpYes B w0 x [p0, p1, p2] Ts' F (L ++ tl (two L r Ts (lvi Ts)) r) R e w' := by
  have hb := best_tl hL hr h2 fun i hi => (h i hi).2.2
  generalize two L r Ts (lvi Ts) = f at *
  have hl2 : (jn (L ++ tl f r)).length ≤ 65536 := by cases f <;> simp [tl, jn_snoc] <;> omega
  obtain ⟨Ts', e1, e2, e3, e4⟩ := opK_tl hF hL hr f hl2 (lvi Ts) Ts fun i hi => ⟨by rw [hT]; exact (lvi_mem hi).1, h i hi⟩
  refine ⟨Ts', by rw [e2, hT], ?_, e3, fun e w' => ?_⟩
  · unfold lvi lvk
    refine List.filter_congr fun i hi => ?_
    have hi3 : i < 3 := List.mem_range.1 hi
    by_cases hm : i ∈ lvi Ts
    · rw [e3 i hm, (lvi_mem hm).2]; rfl
    · rw [e4 i hm]
  · unfold OpP
    rw [if_neg h2, hb, e1, if_pos rfl]
end Go.Proofs.Ytkkkncchinejmaa.TrL
