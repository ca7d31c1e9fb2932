/- The disk, walked: Rot. No condition. -/
import Derived.Test.YteikpbangjpilaaDskK
namespace Go.Proofs.Yteikpbangjpilaa.DskW
open Go Go.RowKit Go.Proofs.Yteikpbangjpilaa Go.Proofs.Yteikpbangjpilaa.Sp Go.Proofs.Yteikpbangjpilaa.Reg Go.Proofs.Yteikpbangjpilaa.SlW Go.Proofs.Yteikpbangjpilaa.Fus Go.Proofs.Yteikpbangjpilaa.DskN Go.Proofs.Yteikpbangjpilaa.Rd

/-- The last pending write of a slot. -/
def lastIdx (pend : List (Nat × List UInt8)) (slot : Nat) : Nat → Option Nat
  | 0 => none
  | q + 1 => if (pend.getD q (0, [])).1 = slot then some q else lastIdx pend slot q
/-- A slot's bytes, as they are kept, are these. -/
def setNow (D : Dk) (slot : Nat) (b : List UInt8) : Dk :=
  match lastIdx D.pend slot D.pend.length with
  | some q => ⟨D.lasts, D.pend.set q (slot, b), D.gone⟩
  | none => ⟨D.lasts.set slot b, D.pend, D.gone⟩
theorem lastIdx_spec (pend : List (Nat × List UInt8)) (ps : List Value) (slot : Nat) (d : Value) (db : List UInt8) : ∀ m, m ≤ pend.length →
    match lastIdx pend slot m with
    | none => nowV (wrOf pend ps) slot d m = d ∧ (pend.take m).foldl (fun acc x => if x.1 = slot then x.2 else acc) db = db
    | some q => ∃ hq : q < pend.length, pend[q].1 = slot ∧ nowV (wrOf pend ps) slot d m = (wrOf pend ps q).val ∧ (pend.take m).foldl (fun acc x => if x.1 = slot then x.2 else acc) db = pend[q].2
  | 0, _ => ⟨rfl, rfl⟩
  | m + 1, hm => by
    have hlt : m < pend.length := by omega
    have ih := lastIdx_spec pend ps slot d db m (by omega)
    have hg : pend.getD m (0, []) = pend[m] := by simp [List.getD_eq_getElem?_getD, hlt]
    unfold lastIdx nowV
    rw [List.take_succ_eq_append_getElem hlt, List.foldl_append, wrOf_slot, hg]
    simp only [List.foldl_cons, List.foldl_nil]
    by_cases e : pend[m].1 = slot
    · rw [if_pos e, if_pos (by omega), if_pos e]
      exact ⟨hlt, e, rfl, rfl⟩
    · rw [if_neg e, if_neg (by omega), if_neg e]
      exact ih
theorem flat_set (pend : List (Nat × List UInt8)) : ∀ (ps : List Value) (q : Nat) (hq : q < pend.length) (b : List UInt8), flat (pend.set q (pend[q].1, b)) ps = flat pend ps := by
  induction pend with
  | nil => intro ps q hq; simp at hq
  | cons x pend ih =>
    intro ps q hq b
    cases ps with
    | nil => cases q <;> simp [flat]
    | cons v ps =>
      cases q with
      | zero => rfl
      | succ q =>
        have := ih ps q (by simpa using hq) b
        show _ :: _ :: flat (pend.set q _) ps = _ :: _ :: flat pend ps
        rw [← this]
        rfl
section
variable {B : Nat} {w0 : World} {R : HP} {bk : Nat} {fv vl vp : Value} {ls ps : List Value} {D : Dk}
theorem now_focus {w : World} (s : St B w0 w (dkO bk fv vl vp ls ps D R)) (hok : D.ok) (h1 : ls.length = D.lasts.length) (h2 : ps.length = D.pend.length) (slot : Nat) (hs : slot < D.lasts.length) :
    ∃ g c X, nowV (wrOf D.pend ps) slot (ls.getD slot (.slice none 0 0)) D.pend.length = .slice (some ⟨g, 0, none⟩) 96 c ∧ St B w0 w (row 5 1 (.slice (some ⟨g, 0, none⟩) 96 c) 96 (bvs (nowB D.lasts D.pend slot)) * X) ∧
      ∀ w' b, b.length = 96 → St B w0 w' (row 5 1 (.slice (some ⟨g, 0, none⟩) 96 c) 96 (bvs b) * X) → St B w0 w' (dkO bk fv vl vp ls ps (setNow D slot b) R) := by
  have sp := lastIdx_spec D.pend ps slot (ls.getD slot (.slice none 0 0)) (D.lasts.getD slot []) D.pend.length (Nat.le_refl _)
  rw [List.take_length] at sp
  unfold setNow
  cases hx : lastIdx D.pend slot D.pend.length with
  | none =>
    rw [hx] at sp
    obtain ⟨e1, e2⟩ := sp
    obtain ⟨gl, cl, gd, cd, X, -, -, hlv, s3, back⟩ := last_focus (L := D.lasts) (pend := D.pend) (gone := D.gone) s h1 slot hs (hok.len _ (List.getElem_mem hs))
    refine ⟨gd, cd, X, ?_, ?_, back⟩
    · rw [e1]; simp [List.getD_eq_getElem?_getD, hlv]
    · unfold nowB
      rw [e2]
      have : D.lasts.getD slot [] = D.lasts[slot] := by simp [List.getD_eq_getElem?_getD, hs]
      rw [this]
      exact s3
  | some q =>
    rw [hx] at sp
    obtain ⟨hq, hsl, e1, e2⟩ := sp
    have hv := (dkO_pb s h2 q hq).2
    have hl : ps.length = (D.pend.map (·.2)).length := by simpa using h2
    have s2 : St B w0 w (rows 5 ps (D.pend.map (·.2)) * (pts bk (.cells #[fv, vl, vp, .bool D.gone] 90 (0, 0)) * (row 25 1 vl D.lasts.length ls * (rows 5 ls D.lasts * (row 92 2 vp D.pend.length (flat D.pend ps) * R))))) := (dkO_d s).eq (by ac_rfl)
    have s3 := s2.rowsAt (b := D.pend[q].2) hl hv (by simp [hq])
    have h96 := hok.plen _ (List.getElem_mem hq)
    obtain ⟨g, c, e, _, _, _, _⟩ := s3.rowCells (by omega)
    rw [h96] at s3 e
    refine ⟨g, c, rows 5 (ps.eraseIdx q) ((D.pend.map (·.2)).eraseIdx q) * (pts bk (.cells #[fv, vl, vp, .bool D.gone] 90 (0, 0)) * (row 25 1 vl D.lasts.length ls * (rows 5 ls D.lasts * (row 92 2 vp D.pend.length (flat D.pend ps) * R)))), by rw [e1, e], ?_, fun w' b hb s4 => ?_⟩
    · unfold nowB
      rw [e2, ← e]
      exact s3
    · rw [← e, ← hb] at s4
      have s5 := St.rowsSet hl hv s4
      unfold dkO
      simp only [List.length_set]
      have e3 : (D.pend.set q (slot, b)).map (·.2) = (D.pend.map (·.2)).set q b := by rw [List.map_set]
      have e4 : flat (D.pend.set q (slot, b)) ps = flat D.pend ps := by rw [← hsl]; exact flat_set D.pend ps q hq b
      rw [e3, e4]
      exact s5.eq (by ac_rfl)
end
theorem setNow_ok {D : Dk} (hok : D.ok) (slot : Nat) (hs : slot < D.lasts.length) (b : List UInt8) (hb : b.length = 96) : (setNow D slot b).ok := by
  unfold setNow
  split
  · refine ⟨hok.few, hok.len, fun x hx => ?_, fun x hx => ?_, by rw [List.length_set]; exact hok.pfew⟩
    · rcases List.mem_or_eq_of_mem_set hx with h | h
      · exact hok.plen x h
      · rw [h]; exact hb
    · rcases List.mem_or_eq_of_mem_set hx with h | h
      · exact hok.pslot x h
      · rw [h]; exact hs
  · refine ⟨by rw [List.length_set]; exact hok.few, fun x hx => ?_, hok.plen, by simpa using hok.pslot, hok.pfew⟩
    rcases List.mem_or_eq_of_mem_set hx with h | h
    · exact hok.len x h
    · rw [h]; exact hb
theorem setNow_len (D : Dk) (slot : Nat) (b : List UInt8) : (setNow D slot b).lasts.length = D.lasts.length ∧ (setNow D slot b).pend.length = D.pend.length ∧ (setNow D slot b).gone = D.gone := by
  unfold setNow
  split <;> simp
/-- Rot. -/
def dRot (D : Dk) (i k : Int) (x : UInt8) : Bool × Dk :=
  if (0 ≤ i ∧ i < D.lasts.length) ∧ 0 ≤ k ∧ k < 96 ∧ D.gone = false then (true, setNow D i.toNat ((nowB D.lasts D.pend i.toNat).set k.toNat ((nowB D.lasts D.pend i.toNat).getD k.toNat 0 ^^^ x))) else (false, D)
theorem bits_xor_u8 (a b : UInt8) : bits .xor .u8 (a.toNat : Int) (b.toNat : Int) = ((a ^^^ b).toNat : Int) := by
  have ha : a.toNat < 256 := a.toNat_lt
  have hb : b.toNat < 256 := b.toNat_lt
  have e1 : ∀ n : Nat, n < 256 → (BitVec.ofInt 8 (n : Int)).toNat = n := fun n h => by rw [BitVec.toNat_ofInt]; omega
  have hx : a.toNat ^^^ b.toNat < 2 ^ 8 := Nat.xor_lt_two_pow (by omega) (by omega)
  show IntKind.u8.wrap ((BitVec.ofInt 8 (a.toNat : Int) ^^^ BitVec.ofInt 8 (b.toNat : Int)).toNat : Nat) = _
  rw [BitVec.toNat_xor, e1 _ ha, e1 _ hb, UInt8.toNat_xor]
  rw [IntKind.wrap_u8]
  omega
section
variable {B : Nat} {w0 : World} {R : HP}
theorem dRot_no {D : Dk} {i k : Int} {x : UInt8} (h : ¬ ((0 ≤ i ∧ i < D.lasts.length) ∧ 0 ≤ k ∧ k < 96 ∧ D.gone = false)) : dRot D i k x = (false, D) := if_neg h
set_option maxRecDepth 100000 in
set_option maxHeartbeats 2000000 in
theorem rot_calls (D : Dk) (p fv : Value) (i k : Int) (x : UInt8) (w : World) (s : St B w0 w (dk p fv D * R)) :
    Calls Try.prog 44 #[p, .int .i64 i, .int .i64 k, bv x] w (RetS B w0 (dk p fv (dRot D i k x).2 * R) (.bool (dRot D i k x).1)) := by
  obtain ⟨bk0, _, _, _, _, rfl, -⟩ := dk_open s
  have q := is_calls D _ fv i w s
  by_cases hv : 0 ≤ i ∧ i < D.lasts.length
  · rw [decide_eq_true hv] at q
    obtain ⟨m, rfl⟩ : ∃ m : Nat, i = m := ⟨i.toNat, by omega⟩
    have hm : m < D.lasts.length := by omega
    by_cases hk0 : k < 0
    · rw [dRot_no (fun h => by omega)]
      have Q := Lib.hid q
      clear q
      clear s hv
      go_enter Try.func44, Try.ntmps44
      go_wp2_with fail
      refine Q.out.mono ?_
      rintro e w1 ⟨rfl, s1⟩
      have S1 := Lib.hid s1
      clear s1
      clear Q
      go_wp2_with fail
      go_ret
      exact ⟨rfl, S1.out⟩
    · by_cases hk1 : 96 ≤ k
      · rw [dRot_no (fun h => by omega)]
        have Q := Lib.hid q
        clear q
        clear s hv
        go_enter Try.func44, Try.ntmps44
        go_wp2_with fail
        refine Q.out.mono ?_
        rintro e w1 ⟨rfl, s1⟩
        have S1 := Lib.hid s1
        clear s1
        clear Q
        go_wp2_with fail
        go_ret
        exact ⟨rfl, S1.out⟩
      · obtain ⟨j, rfl⟩ : ∃ j : Nat, k = j := ⟨k.toNat, by omega⟩
        have hj : j < 96 := by omega
        cases hg : D.gone with
        | true =>
          rw [dRot_no (fun h => by rw [hg] at h; simp at h)]
          have HG := Lib.hid hg
          have Q := Lib.hid q
          clear q
          clear s hv hg
          go_enter Try.func44, Try.ntmps44
          go_wp2_with fail
          refine Q.out.mono ?_
          rintro e w1 ⟨rfl, s1⟩
          obtain ⟨bk, vl, vp, ls, ps, hp, hok, h1, h2, s2⟩ := dk_open s1
          obtain rfl : bk0 = bk := by simpa using hp
          have c3 := (dkO_d s2).cell 3
          rw [HG.out] at c3
          simp at c3
          have S1 := Lib.hid s1
          clear s1
          clear Q s2 hp hok h1 h2
          go_wp2_with fail
          go_ret
          exact ⟨rfl, S1.out⟩
        | false =>
          have e : dRot D m j x = (true, setNow D m ((nowB D.lasts D.pend m).set j ((nowB D.lasts D.pend m).getD j 0 ^^^ x))) := if_pos ⟨hv, by omega, by omega, hg⟩
          rw [e]
          have HG := Lib.hid hg
          have Q := Lib.hid q
          clear q
          clear s hv hg e
          go_enter Try.func44, Try.ntmps44
          go_wp2_with fail
          refine Q.out.mono ?_
          rintro e w1 ⟨rfl, s1⟩
          obtain ⟨bk, vl, vp, ls, ps, hp, hok, h1, h2, s2⟩ := dk_open s1
          obtain rfl : bk0 = bk := by simpa using hp
          have c3 := (dkO_d s2).cell 3
          rw [HG.out] at c3
          simp at c3
          have S2 := Lib.hid s2
          have H := Lib.hid (And.intro hok (And.intro h1 h2))
          clear Q s1 s2 hp hok h1 h2
          go_wp2_with fail
          refine (now_st w1 H.out.1 H.out.2.1 H.out.2.2 m hm S2.out).mono ?_
          rintro e w2 ⟨rfl, s3⟩
          obtain ⟨g, c, X, hnv, s4, back⟩ := now_focus s3 H.out.1 H.out.2.1 H.out.2.2 m hm
          rw [hnv]
          have hl := nowB_len H.out.1 m hm
          have hjl : j < (nowB D.lasts D.pend m).length := by omega
          obtain ⟨_, _, _, _, _, hcell, hfr, _, hset⟩ := s4.rowB'
          have d0 := hcell j hjl
          have f0 := hfr j
          have hx := bits_xor_u8 (nowB D.lasts D.pend m)[j] x
          have hgd : (nowB D.lasts D.pend m).getD j 0 = (nowB D.lasts D.pend m)[j] := by simp [List.getD_eq_getElem?_getD, hjl]
          have HGD := Lib.hid hgd
          have HST := Lib.hid (hset j ((nowB D.lasts D.pend m)[j] ^^^ x) hjl)
          have HBK := Lib.hid back
          have HL := Lib.hid hl
          clear hnv s3 s4 back hcell hfr hset hl hgd S2 c3
          go_wp2_with fail
          go_ret
          rw [HGD.out]
          have hlen : ((nowB D.lasts D.pend m).set j ((nowB D.lasts D.pend m)[j] ^^^ x)).length = 96 := by rw [List.length_set]; exact HL.out
          refine ⟨rfl, dk_mk (setNow_ok H.out.1 m hm _ hlen) (by rw [(setNow_len D m _).1]; exact H.out.2.1) (by rw [(setNow_len D m _).2.1]; exact H.out.2.2) (HBK.out _ _ hlen HST.out)⟩
  · rw [decide_eq_false hv] at q
    rw [dRot_no (fun h => hv h.1)]
    have Q := Lib.hid q
    clear q
    clear s hv
    go_enter Try.func44, Try.ntmps44
    go_wp2_with fail
    refine Q.out.mono ?_
    rintro e w1 ⟨rfl, s1⟩
    have S1 := Lib.hid s1
    clear s1
    clear Q
    go_wp2_with fail
    go_ret
    exact ⟨rfl, S1.out⟩
end
end Go.Proofs.Yteikpbangjpilaa.DskW
