/- The disk, walked: Write. No condition. -/
import Derived.Test.YteikpbangjpilaaDskK
namespace Go.Proofs.Yteikpbangjpilaa.DskW
open Go Go.RowKit Go.Proofs.Yteikpbangjpilaa Go.Proofs.Yteikpbangjpilaa.Sp Go.Proofs.Yteikpbangjpilaa.Reg Go.Proofs.Yteikpbangjpilaa.SlW Go.Proofs.Yteikpbangjpilaa.Fus Go.Proofs.Yteikpbangjpilaa.DskN Go.Proofs.Yteikpbangjpilaa.Rd

theorem tW : SlT Try.prog 88 92 2 32 (.agg #[.int .i64 0, .slice none 0 0]) := ⟨Try.underlying88, info_parts (by kernel_rfl), rfl, by decide⟩
theorem flat_snoc : ∀ (pend : List (Nat × List UInt8)) (ps : List Value) (x : Nat × List UInt8) (v : Value), ps.length = pend.length → flat (pend ++ [x]) (ps ++ [v]) = flat pend ps ++ [.int .i64 (x.1 : Int), v] := by
  intro pend ps x v h
  unfold flat
  rw [List.zip_append h.symm, List.flatMap_append]
  rfl
/-- Write. -/
def dWrite (F : Option Fu) (D : Dk) (i : Int) (bs : List UInt8) : Int × Option Fu × Dk :=
  if ¬ ((0 ≤ i ∧ i < D.lasts.length) ∧ bs.length = 96) then (1, F, D) else if D.gone = true then (5, F, D) else if fdead F = true then (4, F, D) else (0, fspend F, ⟨D.lasts, D.pend ++ [(i.toNat, bs)], D.gone⟩)
section
variable {B : Nat} {w0 : World} {R : HP}
/-- Where the last statement of Write stands. -/
def WI (B : Nat) (w0 : World) (bk : Nat) (fv vl vp : Value) (gone : Bool) (k m : Nat) (bs : List UInt8) (C : List Value) (Y : HP) (j : Nat) (τ : Nat → Value) (w : World) : Prop :=
  match j with
  | 0 => St B w0 w (pts bk (.cells #[fv, vl, vp, .bool gone] 90 (0, 0)) * (row 92 2 vp m C * Y))
  | 1 => ∃ a c, τ 36 = .slice a 96 c ∧ St B w0 w (pts bk (.cells #[fv, vl, vp, .bool gone] 90 (0, 0)) * (row 92 2 vp m C * (row 5 1 (.slice a 96 c) 96 (bvs bs) * Y)))
  | 2 => ∃ a c, τ 37 = .agg #[.int .i64 (k : Int), .slice a 96 c] ∧ St B w0 w (pts bk (.cells #[fv, vl, vp, .bool gone] 90 (0, 0)) * (row 92 2 vp m C * (row 5 1 (.slice a 96 c) 96 (bvs bs) * Y)))
  | 3 => ∃ a c g, τ 38 = .slice (some ⟨g, 0, none⟩) 1 1 ∧ St B w0 w (pts bk (.cells #[fv, vl, vp, .bool gone] 90 (0, 0)) * (row 92 2 vp m C * (row 5 1 (.slice a 96 c) 96 (bvs bs) * (pts g (.cells #[.int .i64 (k : Int), .slice a 96 c] 92 (0, 0)) * Y))))
  | 4 => ∃ a c a2 c2, τ 39 = .slice a2 (m + 1) c2 ∧ St B w0 w (pts bk (.cells #[fv, vl, vp, .bool gone] 90 (0, 0)) * (row 92 2 (.slice a2 (m + 1) c2) (m + 1) (C ++ [.int .i64 (k : Int), .slice a 96 c]) * (row 5 1 (.slice a 96 c) 96 (bvs bs) * Y)))
  | _ => ∃ a c a2 c2, St B w0 w (pts bk (.cells #[fv, vl, .slice a2 (m + 1) c2, .bool gone] 90 (0, 0)) * (row 92 2 (.slice a2 (m + 1) c2) (m + 1) (C ++ [.int .i64 (k : Int), .slice a 96 c]) * (row 5 1 (.slice a 96 c) 96 (bvs bs) * Y)))
theorem WI_cell {bk : Nat} {fv vl vp : Value} {gone : Bool} {k m : Nat} {bs : List UInt8} {C : List Value} {Y : HP} {j : Nat} {τ : Nat → Value} {w : World} (hj : j ≤ 3) (h : WI B w0 bk fv vl vp gone k m bs C Y j τ w) : w.cell? ⟨bk, 2, none⟩ = some vp := by
  match j, hj, h with
  | 0, _, h => exact St.cell h 2
  | 1, _, ⟨_, _, _, h⟩ => exact St.cell h 2
  | 2, _, ⟨_, _, _, h⟩ => exact St.cell h 2
  | 3, _, ⟨_, _, _, _, h⟩ => exact St.cell h 2
theorem slotsOf_same (a : Act) (d : Nat) (v : Value) (h : d < a.tmps.size) : slotsOf (a.put (some d) v) d = v := by
  unfold slotsOf
  simp [Act.put, h]
set_option maxRecDepth 100000 in
set_option maxHeartbeats 4000000 in
theorem write_calls (F : Option Fu) (D : Dk) (i : Int) (bs : List UInt8) (p : Value) (x : Option Addr) (a : Option Addr) (n c : Nat) (w : World) (hpf : D.pend.length < 1000000) (hb : Reads B w0 R (.slice a n c) bs) (hn : n ≤ 4611686018427387904) (s : St B w0 w (dk p (.pointer x) D * (fz (.pointer x) F * R))) :
    Calls Try.prog 34 #[p, .int .i64 i, .slice a n c] w (RetS B w0 (dk p (.pointer x) (dWrite F D i bs).2.2 * (fz (.pointer x) (dWrite F D i bs).2.1 * R)) (.int .i64 (dWrite F D i bs).1)) := by
  have hbs := hb w _ (s.eq (sep_assoc _ _ _).symm)
  obtain rfl := hbs.rd.1
  obtain ⟨bk0, _, _, _, _, rfl, -⟩ := dk_open s
  have q := is_calls D _ (.pointer x) i w s
  have HB := Lib.hid hb
  by_cases hv : 0 ≤ i ∧ i < D.lasts.length
  · rw [decide_eq_true hv] at q
    by_cases h96 : bs.length = 96
    · obtain ⟨k, rfl⟩ : ∃ k : Nat, i = k := ⟨i.toNat, by omega⟩
      have hk : k < D.lasts.length := by omega
      have hw : dWrite F D k bs = if D.gone = true then (5, F, D) else if fdead F = true then (4, F, D) else (0, fspend F, ⟨D.lasts, D.pend ++ [(k, bs)], D.gone⟩) := by
        unfold dWrite; rw [if_neg (by simp only [Classical.not_not]; exact ⟨hv, h96⟩)]; rfl
      rw [hw, h96]
      have Q := Lib.hid q
      have H96 := Lib.hid h96
      clear s q hv hw hbs hb h96
      cases hg : D.gone with
      | true =>
        rw [if_pos rfl]
        have HG := Lib.hid hg
        clear hg
        go_enter Try.func34, Try.ntmps34
        go_wp2_with fail
        refine Q.out.mono ?_
        rintro e w1 ⟨rfl, s1⟩
        obtain ⟨bk, vl, vp, ls, ps, hp, hok, h1, h2, s2⟩ := dk_open s1
        obtain rfl : bk0 = bk := by simpa using hp
        have c0 := (dkO_d s2).cell 0
        have c3 := (dkO_d s2).cell 3
        simp at c0 c3
        rw [HG.out] at c3
        have S1 := Lib.hid s1
        have S2 := Lib.hid s2
        clear s1 s2 hp hok h1 h2 Q
        clear S2
        go_wp2_with fail
        go_ret
        exact ⟨rfl, S1.out⟩
      | false =>
        rw [if_neg (by simp)]
        have HG := Lib.hid hg
        clear hg
        by_cases hd : fdead F = true
        · rw [if_pos hd]
          have HD := Lib.hid hd
          clear hd
          go_enter Try.func34, Try.ntmps34
          go_wp2_with fail
          refine Q.out.mono ?_
          rintro e w1 ⟨rfl, s1⟩
          obtain ⟨bk, vl, vp, ls, ps, hp, hok, h1, h2, s2⟩ := dk_open s1
          obtain rfl : bk0 = bk := by simpa using hp
          have c0 := (dkO_d s2).cell 0
          have c3 := (dkO_d s2).cell 3
          simp at c0 c3
          rw [HG.out] at c3
          have S1 := Lib.hid s1
          have S2 := Lib.hid s2
          clear s1 s2 hp hok h1 h2 Q
          clear S2
          have Q := Lib.hid (spend_no F (.pointer x) w1 HD.out (R := dk (.pointer (some ⟨bk0, 0, none⟩)) (.pointer x) D * R) (S1.out.eq (by ac_rfl)))
          go_wp2_with fail
          refine Q.out.mono ?_
          rintro e w2 ⟨rfl, s2⟩
          have S2 := Lib.hid s2
          clear s2
          clear Q S1 c0 c3
          go_wp2_with fail
          go_ret
          exact ⟨rfl, S2.out.eq (by ac_rfl)⟩
        · rw [if_neg hd]
          have hd' : fdead F = false := by simpa using hd
          have HD := Lib.hid hd'
          clear hd hd'
          go_enter Try.func34, Try.ntmps34
          go_wp2_with fail
          refine Q.out.mono ?_
          rintro e w1 ⟨rfl, s1⟩
          obtain ⟨bk, vl, vp, ls, ps, hp, hok, h1, h2, s2⟩ := dk_open s1
          obtain rfl : bk0 = bk := by simpa using hp
          have c0 := (dkO_d s2).cell 0
          have c3 := (dkO_d s2).cell 3
          simp at c0 c3
          rw [HG.out] at c3
          have S1 := Lib.hid s1
          have S2 := Lib.hid s2
          clear s1 s2 hp hok h1 h2 Q
          clear S2
          have Q := Lib.hid (spend_yes F (.pointer x) w1 HD.out (R := dk (.pointer (some ⟨bk0, 0, none⟩)) (.pointer x) D * R) (S1.out.eq (by ac_rfl)))
          go_wp2_with fail
          refine Q.out.mono ?_
          rintro e w2 ⟨rfl, s2⟩
          have s3 := s2.eq (Q := dk (.pointer (some ⟨bk0, 0, none⟩)) (.pointer x) D * (fz (.pointer x) (fspend F) * R)) (by ac_rfl)
          obtain ⟨bk, vl, vp, ls, ps, hp, hok, h1, h2, s4⟩ := dk_open s3
          obtain rfl : bk0 = bk := by simpa using hp
          obtain ⟨ap, cp, rfl, -⟩ := (dkO_p s4).rowSlice
          have s5 : St B w0 w2 (pts bk0 (.cells #[.pointer x, vl, .slice ap D.pend.length cp, .bool false] 90 (0, 0)) * (row 92 2 (.slice ap D.pend.length cp) D.pend.length (flat D.pend ps) * (row 25 1 vl D.lasts.length ls * (rows 5 ls D.lasts * (rows 5 ps (D.pend.map (·.2)) * (fz (.pointer x) (fspend F) * R)))))) := by
            have q := dkO_d s4
            rw [HG.out] at q
            exact q.eq (by ac_rfl)
          have S5 := Lib.hid s5
          have H := Lib.hid (And.intro hok (And.intro h1 h2))
          clear s2 s3 s4 s5 hp hok h1 h2 Q S1 c0 c3
          go_wp2_with fail
          refine wp_region_rxi (WI B w0 bk0 (.pointer x) vl (.slice ap D.pend.length cp) false k D.pend.length bs (flat D.pend ps) (row 25 1 vl D.lasts.length ls * (rows 5 ls D.lasts * (rows 5 ps (D.pend.map (·.2)) * (fz (.pointer x) (fspend F) * R))))) [7, 8, 9, 10, 13] mixed (by kernel_rfl) (by kernel_rfl) ?_ S5.out.drew ?_
          · intro j τ τ' w' h hI
            match j, h, hI with
            | 0, _, hI => exact hI
            | 1, h, ⟨a, c, e, s⟩ => exact ⟨a, c, (h 0 7 (by omega) rfl 36 rfl).symm.trans e, s⟩
            | 2, h, ⟨a, c, e, s⟩ => exact ⟨a, c, (h 1 8 (by omega) rfl 37 rfl).symm.trans e, s⟩
            | 3, h, ⟨a, c, g, e, s⟩ => exact ⟨a, c, g, (h 2 9 (by omega) rfl 38 rfl).symm.trans e, s⟩
            | 4, h, ⟨a, c, a2, c2, e, s⟩ => exact ⟨a, c, a2, c2, (h 3 10 (by omega) rfl 39 rfl).symm.trans e, s⟩
            | _ + 5, _, hI => exact hI
          · refine RXl.exact (.pointer (some ⟨bk0, 0, none⟩)) rfl rfl rfl rfl rfl (fun _ _ _ _ _ => rfl) ?_
            refine RXl.exact (.pointer (some ⟨bk0, 0, none⟩)) rfl rfl rfl rfl rfl (fun _ _ _ _ _ => rfl) ?_
            refine RXl.exact (.pointer (some ⟨bk0, 0, none⟩)) rfl rfl rfl rfl rfl (fun _ _ _ _ _ => by simp [rho, upd, Spec.val, execOp, go_sem]) ?_
            refine RXl.exact (.pointer (some ⟨bk0, 2, none⟩)) rfl rfl rfl rfl rfl (fun _ _ _ _ _ => by simp [rho, upd, Spec.val, execOp, go_sem]) ?_
            refine RXl.exactB 3 10 rfl (by kernel_rfl) (.slice ap D.pend.length cp) rfl rfl rfl rfl rfl (fun j τ w' hj hI => by have c := WI_cell hj hI; simp [rho, upd, Spec.val, execOp, go_sem, c]) ?_
            refine RXl.exact (.int .i64 (k : Int)) rfl rfl rfl rfl rfl (fun _ _ _ _ _ => rfl) ?_
            refine RXl.exact (.slice a 96 c) rfl rfl rfl rfl rfl (fun _ _ _ _ _ => rfl) ?_
            refine RXl.calle 0 (.so fun v _ => ∃ a c, v = .slice a 96 c) (Free.so _) 57 [.slice a 96 c] [.tmp 35] _ rfl rfl rfl rfl rfl rfl (fun _ => rfl) (fun a' w' hI hsz => ?_) ?_
            · have s := show St B w0 w' _ from hI
              have hb := HB.out w' _ (s.eq (Q := (pts bk0 (.cells #[.pointer x, vl, .slice ap D.pend.length cp, .bool false] 90 (0, 0)) * (row 92 2 (.slice ap D.pend.length cp) D.pend.length (flat D.pend ps) * (row 25 1 vl D.lasts.length ls * (rows 5 ls D.lasts * (rows 5 ps (D.pend.map (·.2)) * fz (.pointer x) (fspend F)))))) * R) (by ac_rfl))
              rw [H96.out] at hb
              refine (clone_callsN a 96 c bs w' hb (by omega) s).mono ?_
              rintro e w3 ⟨v', rfl, s4, -⟩
              obtain ⟨-, a2, c2, rfl, -, -⟩ := s4.rowBS bs rfl
              rw [H96.out] at s4 ⊢
              exact ⟨_, rfl, ⟨a2, c2, rfl⟩, a2, c2, slotsOf_same _ _ _ (by rw [hsz]; show 36 < 42; decide), s4.eq (by ac_rfl)⟩
            refine RXl.effv 1 (.so fun v _ => ∃ a c, v = .agg #[.int .i64 (k : Int), .slice a 96 c]) (Free.so _) rfl rfl rfl rfl (fun a' w' hI hsz hag => ?_) ?_
            · obtain ⟨a1, c1, e36, s⟩ := hI
              have e34 := hag.ex 34 (.int .i64 (k : Int)) rfl rfl rfl
              have e36' : a'.eval (.tmp 36) = .slice a1 96 c1 := e36
              exact ⟨.agg #[.int .i64 (k : Int), .slice a1 96 c1], w', by generalize a'.eval = ρ at e34 e36' ⊢; simp [execOp, go_sem, e34, e36'], ⟨a1, c1, rfl⟩, a1, c1, slotsOf_same _ _ _ (by rw [hsz]; show 37 < 42; decide), s⟩
            refine RXl.effv 2 (.so fun v _ => ∃ g, v = .slice (some ⟨g, 0, none⟩) 1 1) (Free.so _) rfl rfl rfl rfl (fun a' w' hI hsz hag => ?_) ?_
            · obtain ⟨a1, c1, e37, s⟩ := hI
              have e37' : a'.eval (.tmp 37) = .agg #[.int .i64 (k : Int), .slice a1 96 c1] := e37
              refine ⟨.slice (some ⟨w'.heap.size, 0, none⟩) 1 1, w'.alloc (.cells #[.int .i64 (k : Int), .slice a1 96 c1] 92), ?_, ⟨_, rfl⟩, a1, c1, w'.heap.size, slotsOf_same _ _ _ (by rw [hsz]; show 38 < 42; decide), (s.alloc _).eq (by ac_rfl)⟩
              generalize a'.eval = ρ at e37' ⊢
              simp [execOp, go_sem, e37']
            refine RXl.effv 3 (.so fun v _ => ∃ a c, v = .slice a (D.pend.length + 1) c) (Free.so _) rfl rfl rfl rfl (fun a' w' hI hsz hag => ?_) ?_
            · obtain ⟨a1, c1, g, e38, s⟩ := hI
              have e33 := hag.ex 33 (.slice ap D.pend.length cp) rfl rfl rfl
              have e38' : a'.eval (.tmp 38) = .slice (some ⟨g, 0, none⟩) 1 1 := e38
              have s2 := s.eq (Q := row 92 2 (.slice ap D.pend.length cp) D.pend.length (flat D.pend ps) * (pts g (.cells #[.int .i64 (k : Int), .slice a1 96 c1] 92 (0, 0)) * (pts bk0 (.cells #[.pointer x, vl, .slice ap D.pend.length cp, .bool false] 90 (0, 0)) * (row 5 1 (.slice a1 96 c1) 96 (bvs bs) * (row 25 1 vl D.lasts.length ls * (rows 5 ls D.lasts * (rows 5 ps (D.pend.map (·.2)) * (fz (.pointer x) (fspend F) * R)))))))) (by ac_rfl)
              have hrd : Rd w' (some ⟨g, 0, none⟩) [.int .i64 (k : Int), .slice a1 96 c1] := by
                have q := (s2.eq (sep_left_comm _ _ _)).rd 0 2
                exact q
              obtain ⟨v', w3, hr, s3, -⟩ := run_append_st (P := Try.prog) tW 88 s2 (some ⟨g, 0, none⟩) 1 1 [.int .i64 (k : Int), .slice a1 96 c1] hrd (fun e => by cases e) rfl (by simp [Value.oneCell']) (by unfold maxLen; omega) (by omega)
              obtain ⟨a2, c2, rfl, -⟩ := s3.rowSlice
              refine ⟨.slice a2 (D.pend.length + 1) c2, w3, ?_, ⟨a2, c2, rfl⟩, a1, c1, a2, c2, slotsOf_same _ _ _ (by rw [hsz]; show 39 < 42; decide), ?_⟩
              · generalize a'.eval = ρ at e33 e38' ⊢
                simp [execOp, resolve, invoke, builtin, e33, e38', hr, Result.andThen]
              · exact (s3.eq (sep_left_comm _ _ _)).right.eq (by ac_rfl)
            refine RXl.exact (.pointer (some ⟨bk0, 0, none⟩)) rfl rfl rfl rfl rfl (fun _ _ _ _ _ => by simp [rho, upd, Spec.val, execOp, go_sem]) ?_
            refine RXl.exact (.pointer (some ⟨bk0, 2, none⟩)) rfl rfl rfl rfl rfl (fun _ _ _ _ _ => by simp [rho, upd, Spec.val, execOp, go_sem]) ?_
            refine RXl.effI 4 rfl rfl rfl rfl rfl (fun a' w' hI hsz hag => ?_) ?_
            · obtain ⟨a1, c1, a2, c2, e39, s⟩ := hI
              have e41 := hag.ex 41 (.pointer (some ⟨bk0, 2, none⟩)) rfl rfl rfl
              have e39' : a'.eval (.tmp 39) = .slice a2 (D.pend.length + 1) c2 := e39
              exact ⟨_, exec_store rfl e41 e39' rfl (by kernel_rfl) (s.cell 2) (s.free 2), a1, c1, a2, c2, s.set 2 _⟩
            refine RXl.nil fun a' w' hI hd hs hh => ?_
            obtain ⟨a1, c1, a2, c2, s⟩ := hI
            have SE := Lib.hid s
            obtain ⟨tm, df⟩ := a'
            have hd : df = [] := hd
            subst hd
            have hs : tm.size = 42 := hs
            clear hh s
            go_wp2_with fail
            refine bodyPost_ret (results_tmp rfl _ _ _) rfl ?_
            have h6 : (tm.setIfInBounds 6 (.int .i64 0)).getD 6 undef = .int .i64 0 := by simp [hs]
            obtain ⟨hok, h1, h2⟩ := H.out
            have s9 := SE.out
            refine ⟨by first | exact congrArg Ending.returned h6 | simp [hs], ?_⟩
            refine dk_mk (vl := vl) (vp := .slice a2 (D.pend.length + 1) c2) (ls := ls) (ps := ps ++ [.slice a1 96 c1]) (D := ⟨D.lasts, D.pend ++ [(k, bs)], false⟩) ⟨hok.few, hok.len, ?_, ?_, ?_⟩ h1 (by simp [h2]) ?_
            · intro y hy
              rcases List.mem_append.1 hy with h | h
              · exact hok.plen y h
              · simp at h; subst h; exact H96.out
            · intro y hy
              rcases List.mem_append.1 hy with h | h
              · exact hok.pslot y h
              · simp at h; subst h; exact hk
            · simp; omega
            · unfold dkO
              simp only [List.length_append, List.length_singleton, List.map_append, List.map_cons, List.map_nil]
              rw [flat_snoc D.pend ps (k, bs) _ h2, rows_snoc _ _ _ _ _ (by simpa using h2), H96.out]
              exact s9.eq (by ac_rfl)
    · have hw : dWrite F D i bs = (1, F, D) := by unfold dWrite; rw [if_pos (fun h => h96 h.2)]
      rw [hw]
      have h96' : ((bs.length : Int) != 96) = true := by simp; omega
      have Q := Lib.hid q
      clear q
      clear s hw hbs hb h96 hv
      go_enter Try.func34, Try.ntmps34
      go_wp2_with fail
      refine Q.out.mono ?_
      rintro e w1 ⟨rfl, s1⟩
      have S1 := Lib.hid s1
      clear s1
      clear Q
      go_wp2_with fail
      go_ret
      exact ⟨rfl, S1.out⟩
  · rw [decide_eq_false hv] at q
    have hw : dWrite F D i bs = (1, F, D) := by unfold dWrite; rw [if_pos (fun h => hv h.1)]
    rw [hw]
    have Q := Lib.hid q
    clear q
    clear s hw hbs hb hv
    go_enter Try.func34, Try.ntmps34
    go_wp2_with fail
    refine Q.out.mono ?_
    rintro e w1 ⟨rfl, s1⟩
    have S1 := Lib.hid s1
    clear s1
    clear Q
    go_wp2_with fail
    go_ret
    exact ⟨rfl, S1.out⟩
end
end Go.Proofs.Yteikpbangjpilaa.DskW
