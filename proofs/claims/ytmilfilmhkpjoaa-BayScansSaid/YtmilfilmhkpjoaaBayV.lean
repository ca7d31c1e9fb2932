/- Package bay, walked: Scan; Write where the slot is not used; Read where there is no chunk. No condition. -/
import Derived.Test.YtmilfilmhkpjoaaBayX
namespace Go.Proofs.Ytmilfilmhkpjoaa.BayW
open Go Go.RowKit Go.Proofs.Ytmilfilmhkpjoaa Go.Proofs.Ytmilfilmhkpjoaa.Sp Go.Proofs.Ytmilfilmhkpjoaa.Reg Go.Proofs.Ytmilfilmhkpjoaa.SlW Go.Proofs.Ytmilfilmhkpjoaa.Fus Go.Proofs.Ytmilfilmhkpjoaa.Rd Go.Proofs.Ytmilfilmhkpjoaa.DskW Go.Proofs.Ytmilfilmhkpjoaa.FrmW
theorem tC : SlT Try.prog 43 48 3 24 (.agg #[.int .i64 0, .int .i64 0, .int .i64 0]) := ⟨Try.underlying43, info_parts (by kernel_rfl), rfl, by decide⟩
/-- What is found in a slot. -/
def found (D : Dk) (i : Nat) : Option (Nat × Nat × Nat) := open Classical in if good (dRead D i) then some (i, dec (dRead D i) 4, (dat (dRead D i)).length) else none
def chs (D : Dk) (n : Nat) : List (Nat × Nat × Nat) := (List.range n).filterMap (found D)
def c3 (x : Nat × Nat × Nat) : List Value := [.int .i64 (x.1 : Int), .int .i64 (x.2.1 : Int), .int .i64 (x.2.2 : Int)]
theorem chs_yes {D : Dk} {k : Nat} (h : good (dRead D k)) : chs D (k + 1) = chs D k ++ [(k, dec (dRead D k) 4, (dat (dRead D k)).length)] := by
  unfold chs
  rw [List.range_succ, List.filterMap_append]
  have : found D k = some (k, dec (dRead D k) 4, (dat (dRead D k)).length) := if_pos h
  simp [this]
theorem chs_no {D : Dk} {k : Nat} (h : ¬ good (dRead D k)) : chs D (k + 1) = chs D k := by
  unfold chs
  rw [List.range_succ, List.filterMap_append]
  have : found D k = none := if_neg h
  simp [this]
theorem chs_le (D : Dk) (n : Nat) : (chs D n).length ≤ n := by
  unfold chs
  refine Nat.le_trans (List.length_filterMap_le _ _) ?_
  rw [List.length_range]
  exact Nat.le_refl _
section
variable {B : Nat} {w0 : World} {R : HP}
/-- What Scan hands back. -/
def ScP (B : Nat) (w0 : World) (H : HP) (l : List (Nat × Nat × Nat)) (e : Ending) (w' : World) : Prop := ∃ v, e = .returned v ∧ St B w0 w' (row 48 3 v l.length (l.flatMap c3) * H)
set_option maxRecDepth 100000 in
set_option maxHeartbeats 8000000 in
theorem scan_calls (b g c : Nat) (p fv : Value) (us : List Bool) (D : Dk) (hg : D.gone = false) (w : World) (s : St B w0 w (bay b p g c us * (dk p fv D * R))) :
    Calls Try.prog 23 #[.pointer (some ⟨b, 0, none⟩)] w (ScP B w0 (bay b p g c us * (dk p fv D * R)) (chs D D.lasts.length)) := by
  obtain ⟨bk0, _, _, _, _, rfl, hok, -⟩ := dk_open (s.eq (Q := dk p fv D * (bay b p g c us * R)) (by ac_rfl))
  have HOK := Lib.hid hok
  have hfew := hok.few
  have c0 := (bay_cells s).1
  have q := slots_calls D _ fv w (s.eq (Q := dk _ fv D * (bay b _ g c us * R)) (by ac_rfl))
  have HE := Lib.hid (show ∀ k : Nat, k < D.lasts.length → dErr D k = 0 from fun k hk => by unfold dErr; rw [if_pos (by omega), if_neg (by rw [hg]; decide)])
  have HR := Lib.hid (show ∀ k : Nat, k < D.lasts.length → (dRead D k).length = 96 from fun k hk => by unfold dRead; rw [if_pos ⟨by omega, hg⟩, Int.toNat_natCast]; exact nowB_len hok k hk)
  obtain ⟨n, hn⟩ : ∃ n, D.lasts.length = n := ⟨_, rfl⟩
  rw [hn] at q hfew HE HR ⊢
  have Q := Lib.hid q
  clear q s hn hg hok
  go_enter Try.func23, Try.ntmps23
  go_wp2_with fail
  refine Q.out.mono ?_
  rintro e w1 ⟨rfl, s⟩
  have S := Lib.hid ((s.rowNil 48 3).eq (Q := row 48 3 (.slice none 0 0) 0 [] * (bay b (.pointer (some ⟨bk0, 0, none⟩)) g c us * (dk (.pointer (some ⟨bk0, 0, none⟩)) fv D * R))) (by ac_rfl))
  clear s Q c0
  go_wp2_with fail
  go_loopw [3, 15] (fun v i wr => ∃ (k : Nat) (v' : Value), k ≤ n ∧ i = .int .i64 k ∧ v = v' ∧ St B w0 wr (row 48 3 v' (chs D k).length ((chs D k).flatMap c3) * (bay b (.pointer (some ⟨bk0, 0, none⟩)) g c us * (dk (.pointer (some ⟨bk0, 0, none⟩)) fv D * R)))) (fun _ i _ => n - (intOf i).toNat)
  case atStart => exact ⟨0, _, Nat.zero_le _, rfl, rfl, S.out⟩
  case round =>
    obtain ⟨k, v, hk, rfl, rfl, s⟩ := hrel
    clear S
    obtain ⟨av, cv, rfl, -⟩ := s.rowSlice
    by_cases hlt : k < n
    · have c0 := (bay_cells (s.eq (Q := bay b (.pointer (some ⟨bk0, 0, none⟩)) g c us * (row 48 3 (.slice av (chs D k).length cv) (chs D k).length ((chs D k).flatMap c3) * (dk (.pointer (some ⟨bk0, 0, none⟩)) fv D * R))) (by ac_rfl))).1
      have q := read_calls D _ fv k _ (s.eq (Q := dk (.pointer (some ⟨bk0, 0, none⟩)) fv D * (row 48 3 (.slice av (chs D k).length cv) (chs D k).length ((chs D k).flatMap c3) * (bay b (.pointer (some ⟨bk0, 0, none⟩)) g c us * R))) (by ac_rfl))
      rw [HE.out k hlt] at q
      have hlen := HR.out k hlt
      have hyn : good (dRead D k) ∨ ¬ good (dRead D k) := Classical.em _
      have hcy := chs_yes (D := D) (k := k)
      have hcn := chs_no (D := D) (k := k)
      generalize hF : dRead D k = f at q hlen hyn hcy hcn
      have Q := Lib.hid q
      have HYN := Lib.hid hyn
      have HCY := Lib.hid hcy
      have HCN := Lib.hid hcn
      have HLEN := Lib.hid hlen
      clear q hyn hcy hcn hlen hF s
      go_wp2_with fail
      clear c0
      refine Q.out.mono ?_
      rintro e w2 ⟨ar, cr, rfl, s2⟩
      rw [HLEN.out] at s2 ⊢
      obtain ⟨gr, off, rfl⟩ := s2.bs.head (by rw [HLEN.out]; omega)
      have q := take_stw gr off cr f w2 (fun w H s => (s.eq (Q := row 5 1 (.slice (some ⟨gr, off, none⟩) 96 cr) 96 (bvs f) * (H * (dk (.pointer (some ⟨bk0, 0, none⟩)) fv D * (row 48 3 (.slice av (chs D k).length cv) (chs D k).length ((chs D k).flatMap c3) * (bay b (.pointer (some ⟨bk0, 0, none⟩)) g c us * R))))) (by ac_rfl)).bs) HLEN.out s2
      clear Q s2
      rcases HYN.out with hy | hno
      · rw [if_pos hy] at q
        have Q := Lib.hid q
        have HL := Lib.hid (HCY.out hy)
        clear q HCY HCN HYN
        go_wp2_with fail
        refine Q.out.mono ?_
        rintro e w3 ⟨a3, c3', rfl, s3⟩
        have S := Lib.hid ((s3.eq (Q := row 5 1 (.slice a3 (dat f).length c3') (dat f).length (bvs (dat f)) * (row 5 1 (.slice (some ⟨gr, off, none⟩) 96 cr) 96 (bvs f) * (row 48 3 (.slice av (chs D k).length cv) (chs D k).length ((chs D k).flatMap c3) * (bay b (.pointer (some ⟨bk0, 0, none⟩)) g c us * (dk (.pointer (some ⟨bk0, 0, none⟩)) fv D * R))))) (by ac_rfl)).right.right)
        have hle := chs_le D k
        obtain ⟨m, hm⟩ : ∃ m, (chs D k).length = m := ⟨_, rfl⟩
        have HX := Lib.hid (show (chs D k).flatMap c3 ++ [.int .i64 (k : Int), .int .i64 (dec f 4 : Int), .int .i64 ((dat f).length : Int)] = (chs D (k + 1)).flatMap c3 from by rw [HL.out, List.flatMap_append]; rfl)
        have HM := Lib.hid (show (chs D (k + 1)).length = m + 1 from by rw [HL.out, List.length_append, hm]; rfl)
        rw [hm] at S hle
        rw [hm]
        clear s3 Q hm HL
        generalize dec f 4 = di at *
        generalize (dat f).length = dl at *
        have S4 := Lib.hid ((S.out.alloc (.cells #[.int .i64 (k : Int), .int .i64 (di : Int), .int .i64 (dl : Int)] 48)).eq (sep_left_comm _ _ _))
        have hrd := Lib.hid (Rd.new w3 #[.int .i64 (k : Int), .int .i64 (di : Int), .int .i64 (dl : Int)] 48)
        clear S
        go_wp2_with (at_builtin; go_must (refine wpl_append rfl _ _ rfl tC S4.out (some ⟨w3.heap.size, 0, none⟩) 1 1 [.int .i64 (k : Int), .int .i64 (di : Int), .int .i64 (dl : Int)] rfl rfl hrd.out (fun e => by cases e) (by simp) (by simp [Value.oneCell']) (by unfold maxLen; omega) (by omega) ?_); intro v5 w5 s5 _; rw [HX.out, ← HM.out] at s5; have S6 := Lib.hid (s5.eq (Q := row 48 3 v5 (chs D (k + 1)).length ((chs D (k + 1)).flatMap c3) * (bay b (.pointer (some ⟨bk0, 0, none⟩)) g c us * (dk (.pointer (some ⟨bk0, 0, none⟩)) fv D * R)) * _) (by rw [show ∀ a b c : HP, a * (b * c) = a * c * b from fun a b c => by ac_rfl])).left; clear s5)
        go_roundw
        case rel => exact ⟨k + 1, _, by omega, by go_num, rfl, S6.out⟩
        case measure => simp [intOf]; omega
      · rw [if_neg hno] at q
        have Q := Lib.hid q
        have HL := Lib.hid (HCN.out hno)
        clear q HCY HCN HYN
        go_wp2_with fail
        refine Q.out.mono ?_
        rintro e w3 ⟨rfl, s3⟩
        have S := Lib.hid ((s3.eq (Q := row 5 1 (.slice (some ⟨gr, off, none⟩) 96 cr) 96 (bvs f) * (row 48 3 (.slice av (chs D k).length cv) (chs D k).length ((chs D k).flatMap c3) * (bay b (.pointer (some ⟨bk0, 0, none⟩)) g c us * (dk (.pointer (some ⟨bk0, 0, none⟩)) fv D * R)))) (by ac_rfl)).right)
        clear s3 Q
        go_wp2_with fail
        rw [← HL.out]
        rw [← HL.out] at S
        go_roundw
        case rel => exact ⟨k + 1, _, by omega, by go_num, rfl, S.out⟩
        case measure => simp [intOf]; omega
    · have e9 : n = k := by omega
      subst e9
      have S := Lib.hid s
      clear s
      go_wp2_with fail
      go_ret
      exact ⟨_, rfl, S.out⟩
set_option maxRecDepth 100000 in
set_option maxHeartbeats 4000000 in
theorem bwrite_no (b g c : Nat) (p : Value) (us : List Bool) (k : Int) (id : Nat) (hc : can us k true = false) (hid : id < 4294967296) (a : Option Addr) (c2 : Nat) (data : List UInt8) (hd : data.length ≤ 64)
    (w : World) (hb : Reads B w0 R (.slice a data.length c2) data) (s : St B w0 w (bay b p g c us * R)) :
    Calls Try.prog 20 #[.pointer (some ⟨b, 0, none⟩), .int .i64 k, .int .i64 id, .slice a data.length c2] w (RetS B w0 (bay b p g c us * R) (.int .i64 1)) := by
  have Q1 := Lib.hid (put_yes id hid a c2 data hd w (hb w _ s) s)
  have Q2 := Lib.hid fun (g1 : Nat) (w1 : World) (s1 : St B w0 w1 (row 5 1 (.slice (some ⟨g1, 0, none⟩) 96 96) 96 (bvs (frm id data)) * (bay b p g c us * R))) => by
    have q := is_calls b g c p us k true w1 (s1.eq (Q := bay b p g c us * (row 5 1 (.slice (some ⟨g1, 0, none⟩) 96 96) 96 (bvs (frm id data)) * R)) (by ac_rfl))
    rw [hc] at q
    simp only [uz, if_true] at q
    exact q
  clear hb s hc
  go_enter Try.func20, Try.ntmps20
  go_wp2_with fail
  refine Q1.out.mono ?_
  rintro e w1 ⟨g1, rfl, -, -, s1⟩
  have S := Lib.hid s1
  clear s1 Q1
  go_wp2_with fail
  refine (Q2.out g1 _ S.out).mono ?_
  rintro e w2 ⟨rfl, s2⟩
  clear S Q2
  have S := Lib.hid (s2.eq (Q := row 5 1 (.slice (some ⟨g1, 0, none⟩) 96 96) 96 (bvs (frm id data)) * (bay b p g c us * R)) (by ac_rfl)).right
  clear s2
  go_wp2_with fail
  go_ret
  exact ⟨rfl, S.out⟩
set_option maxRecDepth 100000 in
set_option maxHeartbeats 400000 in
theorem holds_bad (bk off c : Nat) (b : List UInt8) (id2 : Int) (w : World) (h : BS w (.slice (some ⟨bk, off, none⟩) 96 c) b) (hl : b.length = 96) (hb : ¬ good b) :
    Calls Try.prog 63 #[.slice (some ⟨bk, off, none⟩) 96 c, .int .i64 id2] w (RetNo w) := by
  have HT := Lib.hid (take_bad bk off c b w h hl hb)
  clear h hl hb
  go_enter Try.func63, Try.ntmps63
  go_wp2_with fail
  refine HT.out.mono ?_
  rintro e w1 ⟨rfl, h1⟩
  have H1 := Lib.hid h1
  clear h1 HT
  go_wp2_with fail
  go_ret2
  exact ⟨rfl, H1.out⟩
set_option maxRecDepth 100000 in
set_option maxHeartbeats 4000000 in
theorem bread_none (b g c : Nat) (p fv : Value) (us : List Bool) (D : Dk) (k : Int) (id2 : Int) (f : List UInt8) (hl : f.length = 96) (hf : ¬ good f) (he : dErr D k = 0) (hr : dRead D k = f)
    (w : World) (s : St B w0 w (bay b p g c us * (dk p fv D * R))) :
    Calls Try.prog 21 #[.pointer (some ⟨b, 0, none⟩), .int .i64 k, .int .i64 id2] w (RetS B w0 (bay b p g c us * (dk p fv D * R)) (.tuple #[.slice none 0 0, .int .i64 6])) := by
  have c0 := (bay_cells s).1
  have q := read_calls D p fv k w (s.eq (Q := dk p fv D * (bay b p g c us * R)) (by ac_rfl))
  rw [he, hr] at q
  have Q := Lib.hid q
  have HN := Lib.hid hf
  have HLN := Lib.hid hl
  clear q s hf hl
  go_enter Try.func21, Try.ntmps21
  go_wp2_with fail
  clear c0
  refine Q.out.mono ?_
  rintro e w1 ⟨ar, cr, rfl, s1⟩
  rw [HLN.out] at s1 ⊢
  have hbs := s1.bs
  obtain ⟨gr, off, rfl⟩ := hbs.head (by rw [HLN.out]; omega)
  have q := holds_bad gr off cr f id2 w1 hbs HLN.out HN.out
  have Q2 := Lib.hid q
  have S := Lib.hid s1
  clear s1 q hbs Q he hr
  go_wp2_with fail
  refine Q2.out.mono ?_
  rintro e w2 ⟨rfl, h2⟩
  have S2 := Lib.hid (((S.out.right).keep h2).eq (Q := bay b p g c us * (dk p fv D * R)) (by ac_rfl))
  clear S Q2 h2
  go_wp2_with fail
  go_ret2
  exact ⟨rfl, S2.out⟩
end
end Go.Proofs.Ytmilfilmhkpjoaa.BayW
