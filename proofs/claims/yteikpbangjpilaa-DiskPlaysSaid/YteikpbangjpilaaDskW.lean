/- The disk, walked: what its methods do to the slots that last and to the writes that are pending. No condition. -/
import Derived.Test.YteikpbangjpilaaDskN
import Derived.Test.YteikpbangjpilaaRws
import Derived.Test.YteikpbangjpilaaRex
import Derived.Test.YteikpbangjpilaaRd
namespace Go.Proofs.Yteikpbangjpilaa.DskW
open Go Go.RowKit Go.Proofs.Yteikpbangjpilaa Go.Proofs.Yteikpbangjpilaa.Sp Go.Proofs.Yteikpbangjpilaa.Reg Go.Proofs.Yteikpbangjpilaa.SlW Go.Proofs.Yteikpbangjpilaa.Fus Go.Proofs.Yteikpbangjpilaa.DskN Go.Proofs.Yteikpbangjpilaa.Rd

/-- A disk: the bytes that last, the writes that are pending. -/
structure Dk where
  lasts : List (List UInt8)
  pend : List (Nat × List UInt8)
  gone : Bool
structure Dk.ok (D : Dk) : Prop where
  few : D.lasts.length ≤ 64
  len : ∀ b ∈ D.lasts, b.length = 96
  plen : ∀ x ∈ D.pend, x.2.length = 96
  pslot : ∀ x ∈ D.pend, x.1 < D.lasts.length
  pfew : D.pend.length ≤ 1000000
/-- The cells of pending writes. -/
def flat (pend : List (Nat × List UInt8)) (ps : List Value) : List Value := (pend.zip ps).flatMap fun x => [.int .i64 (x.1.1 : Int), x.2]
/-- The disk that a pointer leads to, written out. -/
def dkO (bk : Nat) (fv vl vp : Value) (ls ps : List Value) (D : Dk) (R : HP) : HP :=
  pts bk (.cells #[fv, vl, vp, .bool D.gone] 90 (0, 0)) * (row 25 1 vl D.lasts.length ls * (rows 5 ls D.lasts * (row 92 2 vp D.pend.length (flat D.pend ps) * (rows 5 ps (D.pend.map (·.2)) * R))))
def dk (p fv : Value) (D : Dk) : HP := exi fun bk => exi fun vl => exi fun vp => exi fun ls => exi fun ps =>
  pur (p = .pointer (some ⟨bk, 0, none⟩) ∧ D.ok ∧ ls.length = D.lasts.length ∧ ps.length = D.pend.length) * dkO bk fv vl vp ls ps D emp
section
variable {B : Nat} {w0 : World} {R : HP}
theorem dk_open {w : World} {p fv : Value} {D : Dk} (s : St B w0 w (dk p fv D * R)) :
    ∃ bk vl vp ls ps, p = .pointer (some ⟨bk, 0, none⟩) ∧ D.ok ∧ ls.length = D.lasts.length ∧ ps.length = D.pend.length ∧ St B w0 w (dkO bk fv vl vp ls ps D R) := by
  unfold dk at s
  rw [St.ex] at s; obtain ⟨bk, s⟩ := s
  rw [St.ex] at s; obtain ⟨vl, s⟩ := s
  rw [St.ex] at s; obtain ⟨vp, s⟩ := s
  rw [St.ex] at s; obtain ⟨ls, s⟩ := s
  rw [St.ex] at s; obtain ⟨ps, s⟩ := s
  rw [sep_assoc, St.pu] at s
  refine ⟨bk, vl, vp, ls, ps, s.1.1, s.1.2.1, s.1.2.2.1, s.1.2.2.2, s.2.eq ?_⟩
  unfold dkO
  simp only [sep_emp]
  ac_rfl
theorem dk_mk {w : World} {fv vl vp : Value} {bk : Nat} {ls ps : List Value} {D : Dk} (h : D.ok) (h1 : ls.length = D.lasts.length) (h2 : ps.length = D.pend.length) (s : St B w0 w (dkO bk fv vl vp ls ps D R)) : St B w0 w (dk (.pointer (some ⟨bk, 0, none⟩)) fv D * R) := by
  unfold dk
  rw [St.ex]; refine ⟨bk, ?_⟩
  rw [St.ex]; refine ⟨vl, ?_⟩
  rw [St.ex]; refine ⟨vp, ?_⟩
  rw [St.ex]; refine ⟨ls, ?_⟩
  rw [St.ex]; refine ⟨ps, ?_⟩
  rw [sep_assoc, St.pu]
  refine ⟨⟨rfl, h, h1, h2⟩, s.eq ?_⟩
  unfold dkO
  simp only [sep_emp]
  ac_rfl
section
variable {bk : Nat} {fv vl vp : Value} {ls ps : List Value} {D : Dk}
theorem dkO_d {w : World} (s : St B w0 w (dkO bk fv vl vp ls ps D R)) : St B w0 w (pts bk (.cells #[fv, vl, vp, .bool D.gone] 90 (0, 0)) * (row 25 1 vl D.lasts.length ls * (rows 5 ls D.lasts * (row 92 2 vp D.pend.length (flat D.pend ps) * (rows 5 ps (D.pend.map (·.2)) * R))))) := s
theorem dkO_l {w : World} (s : St B w0 w (dkO bk fv vl vp ls ps D R)) : St B w0 w (row 25 1 vl D.lasts.length ls * (rows 5 ls D.lasts * (row 92 2 vp D.pend.length (flat D.pend ps) * (rows 5 ps (D.pend.map (·.2)) * R)))) := (dkO_d s).right
theorem dkO_p {w : World} (s : St B w0 w (dkO bk fv vl vp ls ps D R)) : St B w0 w (row 92 2 vp D.pend.length (flat D.pend ps) * (rows 5 ps (D.pend.map (·.2)) * R)) := (dkO_l s).right.right
set_option maxHeartbeats 400000 in
theorem is_calls (D : Dk) (p fv : Value) (i : Int) (w : World) (s : St B w0 w (dk p fv D * R)) :
    Calls Try.prog 59 #[p, .int .i64 i] w (RetS B w0 (dk p fv D * R) (.bool (decide (0 ≤ i ∧ i < D.lasts.length)))) := by
  obtain ⟨bk, vl, vp, ls, ps, rfl, hok, h1, h2, s1⟩ := dk_open s
  obtain ⟨al, cl, rfl, -⟩ := (dkO_l s1).rowSlice
  have c1 := (dkO_d s1).cell 1
  simp at c1
  have S := Lib.hid s
  clear s
  clear s1 hok h1 h2
  by_cases h0 : i < 0
  · have e : decide (0 ≤ i ∧ i < D.lasts.length) = false := by simp; omega
    rw [e]
    clear e
    go_enter Try.func59, Try.ntmps59
    go_wp2_with fail
    go_ret
    exact ⟨rfl, S.out⟩
  · have h0' : 0 ≤ i := by omega
    by_cases h1 : i < D.lasts.length
    · have e : decide (0 ≤ i ∧ i < D.lasts.length) = true := by simp; omega
      rw [e]
      clear e h0
      go_enter Try.func59, Try.ntmps59
      go_wp2_with fail
      go_ret
      exact ⟨rfl, S.out⟩
    · have e : decide (0 ≤ i ∧ i < D.lasts.length) = false := by simp; omega
      rw [e]
      have h1' : (D.lasts.length : Int) ≤ i := by omega
      clear e h0 h1
      go_enter Try.func59, Try.ntmps59
      go_wp2_with fail
      go_ret
      exact ⟨by simp; omega, S.out⟩
set_option maxHeartbeats 400000 in
theorem slots_calls (D : Dk) (p fv : Value) (w : World) (s : St B w0 w (dk p fv D * R)) : Calls Try.prog 49 #[p] w (RetS B w0 (dk p fv D * R) (.int .i64 D.lasts.length)) := by
  obtain ⟨bk, vl, vp, ls, ps, rfl, hok, h1, h2, s1⟩ := dk_open s
  obtain ⟨al, cl, rfl, -⟩ := (dkO_l s1).rowSlice
  have c1 := (dkO_d s1).cell 1
  simp at c1
  have S := Lib.hid s
  clear s
  clear s1 hok h1 h2
  go_enter Try.func49, Try.ntmps49
  go_wp2_with fail
  go_ret
  exact ⟨rfl, S.out⟩
set_option maxHeartbeats 400000 in
theorem pending_calls (D : Dk) (p fv : Value) (w : World) (s : St B w0 w (dk p fv D * R)) : Calls Try.prog 40 #[p] w (RetS B w0 (dk p fv D * R) (.int .i64 D.pend.length)) := by
  obtain ⟨bk, vl, vp, ls, ps, rfl, hok, h1, h2, s1⟩ := dk_open s
  obtain ⟨al, cl, rfl, -⟩ := (dkO_p s1).rowSlice
  have c2 := (dkO_d s1).cell 2
  simp at c2
  have S := Lib.hid s
  clear s
  clear s1 hok h1 h2
  go_enter Try.func40, Try.ntmps40
  go_wp2_with fail
  go_ret
  exact ⟨rfl, S.out⟩
set_option maxHeartbeats 400000 in
theorem live_calls (D : Dk) (p fv : Value) (w : World) (s : St B w0 w (dk p fv D * R)) : Calls Try.prog 46 #[p] w (RetS B w0 (dk p fv D * R) (.bool (!D.gone))) := by
  obtain ⟨bk, vl, vp, ls, ps, rfl, hok, h1, h2, s1⟩ := dk_open s
  have c3 := (dkO_d s1).cell 3
  simp at c3
  have S := Lib.hid s
  clear s
  clear s1 hok h1 h2
  obtain ⟨l, p, gone⟩ := D
  cases gone <;>
  · skip
    go_enter Try.func46, Try.ntmps46
    go_wp2_with fail
    go_ret
    exact ⟨rfl, S.out⟩
set_option maxHeartbeats 400000 in
theorem fail_calls (D : Dk) (p fv : Value) (w : World) (s : St B w0 w (dk p fv D * R)) : Calls Try.prog 45 #[p] w (RetS B w0 (dk p fv ⟨D.lasts, D.pend, true⟩ * R) (.tuple #[])) := by
  obtain ⟨bk, vl, vp, ls, ps, rfl, hok, h1, h2, s1⟩ := dk_open s
  have c3 := (dkO_d s1).cell 3
  have f3 := (dkO_d s1).free 3
  simp at c3
  have S1 := Lib.hid s1
  have H := Lib.hid (And.intro hok (And.intro h1 h2))
  clear s s1 hok h1 h2
  go_enter Try.func45, Try.ntmps45
  go_wp2_with fail
  go_end0
  obtain ⟨k1, k2, k3⟩ := H.out
  exact ⟨rfl, dk_mk (D := ⟨D.lasts, D.pend, true⟩) ⟨k1.few, k1.len, k1.plen, k1.pslot, k1.pfew⟩ k2 k3 ((dkO_d S1.out).set 3 (.bool true))⟩
def wrOf (pend : List (Nat × List UInt8)) (ps : List Value) (q : Nat) : Wr :=
  match ps.getD q (.slice none 0 0) with
  | .slice a n c => ⟨q, ((pend.getD q (0, [])).1 : Int), a, n, c⟩
  | _ => ⟨q, ((pend.getD q (0, [])).1 : Int), none, 0, 0⟩
theorem wrOf_idx (pend : List (Nat × List UInt8)) (ps : List Value) (q : Nat) : (wrOf pend ps q).idx = q := by unfold wrOf; split <;> rfl
theorem wrOf_slot (pend : List (Nat × List UInt8)) (ps : List Value) (q : Nat) : (wrOf pend ps q).slot = ((pend.getD q (0, [])).1 : Int) := by unfold wrOf; split <;> rfl
theorem wrOf_val (pend : List (Nat × List UInt8)) (ps : List Value) (q : Nat) {v : Value} (hv : ps[q]? = some v) (h : ∃ a n c, v = .slice a n c) : (wrOf pend ps q).val = v := by
  obtain ⟨a, n, c, rfl⟩ := h
  unfold wrOf
  simp [hv, Wr.val]
theorem flat_at : ∀ (pend : List (Nat × List UInt8)) (ps : List Value) (j : Nat), ps.length = pend.length → j < pend.length →
    (flat pend ps)[j * 2]? = some (.int .i64 ((pend.getD j (0, [])).1 : Int)) ∧ (flat pend ps)[j * 2 + 1]? = ps[j]?
  | [], _, j, _, hj => by simp at hj
  | x :: pend, [], j, h, _ => by simp at h
  | x :: pend, v :: ps, 0, _, _ => ⟨rfl, rfl⟩
  | x :: pend, v :: ps, j + 1, h, hj => by
    have q := flat_at pend ps j (by simpa using h) (by simpa using hj)
    have e : flat (x :: pend) (v :: ps) = .int .i64 (x.1 : Int) :: v :: flat pend ps := rfl
    rw [e, show (j + 1) * 2 = j * 2 + 1 + 1 by omega]
    simpa using q
theorem flat_len (pend : List (Nat × List UInt8)) (ps : List Value) (h : ps.length = pend.length) : (flat pend ps).length = pend.length * 2 := by
  induction pend generalizing ps with
  | nil => rfl
  | cons x pend ih =>
    cases ps with
    | nil => simp at h
    | cons v ps =>
      show (flat pend ps).length + 2 = _
      rw [ih ps (by simpa using h)]
      simp; omega
/-- A slot's bytes, as they are kept. -/
def nowB (lasts : List (List UInt8)) (pend : List (Nat × List UInt8)) (slot : Nat) : List UInt8 := pend.foldl (fun acc x => if x.1 = slot then x.2 else acc) (lasts.getD slot [])
theorem now_bs {w : World} (pend : List (Nat × List UInt8)) (ps : List Value) (slot : Nat) (d : Value) (db : List UInt8) (hd : BS w d db) (h : ∀ q (hq : q < pend.length), BS w (wrOf pend ps q).val (pend[q]).2) :
    ∀ m, m ≤ pend.length → BS w (nowV (wrOf pend ps) slot d m) ((pend.take m).foldl (fun acc x => if x.1 = slot then x.2 else acc) db) := by
  intro m
  induction m with
  | zero => intro _; exact hd
  | succ m ih =>
    intro hm
    unfold nowV
    rw [List.take_succ_eq_append_getElem (by omega), List.foldl_append]
    simp only [List.foldl_cons, List.foldl_nil, wrOf_slot, List.getD_eq_getElem?_getD, List.getElem?_eq_getElem (show m < pend.length by omega), Option.getD_some]
    by_cases e : pend[m].1 = slot
    · rw [if_pos (by omega), if_pos e]; exact h m (by omega)
    · rw [if_neg (by omega), if_neg e]; exact ih (by omega)
section
variable {bk : Nat} {fv vl vp : Value} {ls ps : List Value} {D : Dk}
theorem dkO_pb {w : World} (s : St B w0 w (dkO bk fv vl vp ls ps D R)) (h : ps.length = D.pend.length) (q : Nat) (hq : q < D.pend.length) : BS w (wrOf D.pend ps q).val (D.pend[q]).2 ∧ ps[q]? = some (wrOf D.pend ps q).val := by
  obtain ⟨u, hu, hb⟩ := St.rowsBS ps (D.pend.map (·.2)) (dkO_p s).right (by simpa using h) q (by simpa using hq)
  have e := wrOf_val D.pend ps q hu (by obtain ⟨a, c, e, _⟩ := hb; exact ⟨_, _, _, e⟩)
  rw [e]
  exact ⟨by simpa using hb, hu⟩
theorem dkO_lb {w : World} (s : St B w0 w (dkO bk fv vl vp ls ps D R)) (h : ls.length = D.lasts.length) (i : Nat) (hi : i < D.lasts.length) : ∃ v, ls[i]? = some v ∧ BS w v D.lasts[i] :=
  St.rowsBS ls D.lasts (dkO_l s).right h i hi
theorem now_st (w : World) (hok : D.ok) (h1 : ls.length = D.lasts.length) (h2 : ps.length = D.pend.length) (slot : Nat) (hs : slot < D.lasts.length) (s : St B w0 w (dkO bk fv vl vp ls ps D R)) :
    Calls Try.prog 61 #[.pointer (some ⟨bk, 0, none⟩), .int .i64 slot] w (RetS B w0 (dkO bk fv vl vp ls ps D R) (nowV (wrOf D.pend ps) slot (ls.getD slot (.slice none 0 0)) D.pend.length)) := by
  obtain ⟨gl, cl, rfl, _, _, _, hlc⟩ := (dkO_l s).rowCells (by omega)
  obtain ⟨ap, cp, rfl, _, _, _, hpc⟩ := (dkO_p s).rowSlice
  obtain ⟨v, hv, hb⟩ := dkO_lb s h1 slot hs
  obtain ⟨la, lc, rfl, -⟩ := id hb
  have hlv : ls.getD slot (.slice none 0 0) = .slice la (D.lasts[slot]).length lc := by simp [List.getD_eq_getElem?_getD, hv]
  rw [hlv]
  by_cases h0 : 0 < D.pend.length
  · obtain ⟨g, rfl, hcell⟩ := hpc h0
    refine (now_calls bk gl g D.pend.length cp D.lasts.length cl slot _ (fun _ => rfl) (wrOf D.pend ps) (wrOf_idx _ _) hok.pfew w la _ lc hs hok.few ((dkO_d s).cell 2) ((dkO_d s).cell 1) ((hlc slot (by omega)).trans hv) (fun j hj => ?_)).mono fun e w' ⟨e1, e2⟩ => ⟨e1, s.keep e2⟩
    have q := flat_at D.pend ps j h2 hj
    refine ⟨by rw [hcell _ (by omega), q.1, wrOf_slot], ?_⟩
    rw [hcell _ (by omega), q.2, (dkO_pb s h2 j hj).2]
    rfl
  · refine (now_calls bk gl 0 D.pend.length cp D.lasts.length cl slot ap (fun h => absurd h h0) (wrOf D.pend ps) (wrOf_idx _ _) hok.pfew w la _ lc hs hok.few ((dkO_d s).cell 2) ((dkO_d s).cell 1) ((hlc slot (by omega)).trans hv) (fun j hj => by omega)).mono fun e w' ⟨e1, e2⟩ => ⟨e1, s.keep e2⟩
theorem now_st_bs {w : World} (h1 : ls.length = D.lasts.length) (h2 : ps.length = D.pend.length) (slot : Nat) (hs : slot < D.lasts.length) (s : St B w0 w (dkO bk fv vl vp ls ps D R)) :
    BS w (nowV (wrOf D.pend ps) slot (ls.getD slot (.slice none 0 0)) D.pend.length) (nowB D.lasts D.pend slot) := by
  obtain ⟨v, hv, hb⟩ := dkO_lb s h1 slot hs
  have hlv : ls.getD slot (.slice none 0 0) = v := by simp [List.getD_eq_getElem?_getD, hv]
  have hdb : D.lasts.getD slot [] = D.lasts[slot] := by simp [List.getD_eq_getElem?_getD, hs]
  have q := now_bs D.pend ps slot v D.lasts[slot] hb (fun q hq => (dkO_pb s h2 q hq).1) D.pend.length (Nat.le_refl _)
  rw [List.take_length] at q
  unfold nowB
  rw [hlv, hdb]
  exact q
end
end
/-- Read. -/
def dErr (D : Dk) (i : Int) : Int := if 0 ≤ i ∧ i < D.lasts.length then (if D.gone = true then 5 else 0) else 1
def dRead (D : Dk) (i : Int) : List UInt8 := if (0 ≤ i ∧ i < D.lasts.length) ∧ D.gone = false then nowB D.lasts D.pend i.toNat else []
theorem nowB_len {D : Dk} (hok : D.ok) (slot : Nat) (hs : slot < D.lasts.length) : (nowB D.lasts D.pend slot).length = 96 := by
  unfold nowB
  have h0 : (D.lasts.getD slot []).length = 96 := by
    simp only [List.getD_eq_getElem?_getD, List.getElem?_eq_getElem hs, Option.getD_some]
    exact hok.len _ (List.getElem_mem hs)
  have : ∀ (pend : List (Nat × List UInt8)) (acc : List UInt8), acc.length = 96 → (∀ x ∈ pend, x.2.length = 96) → (pend.foldl (fun acc x => if x.1 = slot then x.2 else acc) acc).length = 96 := by
    intro pend
    induction pend with
    | nil => intro acc h _; exact h
    | cons x pend ih =>
      intro acc h hp
      refine ih _ ?_ (fun y hy => hp y (List.mem_cons_of_mem _ hy))
      show (if x.1 = slot then x.2 else acc).length = 96
      split
      · exact hp x (by simp)
      · exact h
  exact this _ _ h0 hok.plen
set_option maxHeartbeats 1000000 in
theorem read_calls (D : Dk) (p fv : Value) (i : Int) (w : World) (s : St B w0 w (dk p fv D * R)) :
    Calls Try.prog 38 #[p, .int .i64 i] w (RetRow B w0 (dk p fv D * R) (dRead D i) (dErr D i)) := by
  by_cases hv : 0 ≤ i ∧ i < D.lasts.length
  · obtain ⟨k, rfl⟩ : ∃ k : Nat, i = k := ⟨i.toNat, by omega⟩
    have hk : k < D.lasts.length := by omega
    have q := is_calls D p fv k w s
    rw [decide_eq_true hv] at q
    have he : dErr D k = if D.gone = true then 5 else 0 := if_pos hv
    have hr : dRead D k = if D.gone = false then nowB D.lasts D.pend k else [] := by
      unfold dRead
      by_cases hg : D.gone = false
      · rw [if_pos ⟨hv, hg⟩, if_pos hg]; rfl
      · rw [if_neg (fun h => hg h.2), if_neg hg]
    obtain ⟨bk0, _, _, _, _, rfl, -⟩ := dk_open s
    have Q := Lib.hid q
    have HE := Lib.hid he
    have HR := Lib.hid hr
    clear s q hv he hr
    go_enter Try.func38, Try.ntmps38
    go_wp2_with fail
    refine Q.out.mono ?_
    rintro e w1 ⟨rfl, s1⟩
    obtain ⟨bk, vl, vp, ls, ps, hp, hok, h1, h2, s2⟩ := dk_open s1
    obtain rfl : bk0 = bk := by simpa using hp
    have c3 := (dkO_d s2).cell 3
    simp at c3
    have S1 := Lib.hid s1
    have S2 := Lib.hid s2
    have H := Lib.hid (And.intro hok (And.intro h1 h2))
    clear s1 s2 hp hok h1 h2 Q
    cases hg : D.gone with
    | true =>
      rw [hg] at c3
      have HG := Lib.hid hg
      clear hg
      go_wp2_with fail
      go_ret2
      refine ⟨none, 0, ?_, ?_⟩
      · rw [HE.out, HR.out, HG.out]; rfl
      · rw [HR.out, HG.out]; exact S1.out.rowNil _ _
    | false =>
      rw [hg] at c3
      have HG := Lib.hid hg
      clear hg
      go_wp2_with fail
      refine (now_st w1 H.out.1 H.out.2.1 H.out.2.2 k hk S2.out).mono ?_
      rintro e w2 ⟨rfl, s3⟩
      have hb := now_st_bs H.out.2.1 H.out.2.2 k hk s3
      have hl := nowB_len H.out.1 k hk
      obtain ⟨a, c, hnv, -⟩ := id hb
      rw [hnv] at hb ⊢
      rw [hl] at hb ⊢
      have S3 := Lib.hid (dk_mk H.out.1 H.out.2.1 H.out.2.2 s3)
      have HB := Lib.hid hb
      have HL := Lib.hid hl
      clear hnv hb s3 hl S1 S2
      go_wp2_with fail
      refine (clone_callsN a 96 c _ w2 HB.out (by omega) S3.out).mono ?_
      rintro e w3 ⟨v', rfl, s4, -⟩
      obtain ⟨-, a2, c2, rfl, -, -⟩ := s4.rowBS _ rfl
      have S4 := Lib.hid s4
      clear s4 S3
      rw [HL.out]
      go_wp2_with fail
      go_ret2
      refine ⟨a2, c2, ?_, ?_⟩
      · rw [HE.out, HR.out, HG.out, if_pos rfl, HL.out]; rfl
      · rw [HR.out, HG.out, if_pos rfl]; exact S4.out
  · have q := is_calls D p fv i w s
    rw [decide_eq_false hv] at q
    have he : dErr D i = 1 := if_neg hv
    have hr : dRead D i = [] := if_neg fun h => hv h.1
    rw [he, hr]
    obtain ⟨bk0, _, _, _, _, rfl, -⟩ := dk_open s
    have Q := Lib.hid q
    clear q
    clear s he hr hv
    go_enter Try.func38, Try.ntmps38
    go_wp2_with fail
    refine Q.out.mono ?_
    rintro e w1 ⟨rfl, s1⟩
    have S1 := Lib.hid s1
    clear s1
    clear Q
    go_wp2_with fail
    go_ret2
    exact ⟨none, 0, rfl, S1.out.rowNil _ _⟩
end
end Go.Proofs.Yteikpbangjpilaa.DskW
