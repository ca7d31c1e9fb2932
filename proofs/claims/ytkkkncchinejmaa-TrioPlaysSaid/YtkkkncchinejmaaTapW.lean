/- The tape, walked: its methods as functions on bytes. No condition. -/
import Derived.Test.YtkkkncchinejmaaFus
namespace Go.Proofs.Ytkkkncchinejmaa.TapW
open Go Go.RowKit Go.Proofs.Ytkkkncchinejmaa Go.Proofs.Ytkkkncchinejmaa.Sp Go.Proofs.Ytkkkncchinejmaa.Reg Go.Proofs.Ytkkkncchinejmaa.SlW Go.Proofs.Ytkkkncchinejmaa.Fus

/-- A tape. -/
structure Tp where
  b : List UInt8
  loose : Nat
  gone : Bool
/-- A tape that may be. -/
def Tp.ok (T : Tp) : Prop := T.loose ≤ T.b.length ∧ T.b.length ≤ 65536
/-- The tape that a pointer leads to. -/
def tp (p fv : Value) (T : Tp) : HP := exi fun bk => exi fun v => pur (p = .pointer (some ⟨bk, 0, none⟩) ∧ T.ok) *
  (pts bk (.cells #[fv, v, .int .i64 T.loose, .bool T.gone] 89 (0, 0)) * row 5 1 v T.b.length (bvs T.b))
section
variable {B : Nat} {w0 : World} {R : HP}
theorem tp_open {w : World} {p fv : Value} {T : Tp} (s : St B w0 w (tp p fv T * R)) :
    ∃ bk v, p = .pointer (some ⟨bk, 0, none⟩) ∧ T.ok ∧ St B w0 w (pts bk (.cells #[fv, v, .int .i64 T.loose, .bool T.gone] 89 (0, 0)) * (row 5 1 v T.b.length (bvs T.b) * R)) := by
  unfold tp at s
  rw [St.ex] at s
  obtain ⟨bk, s⟩ := s
  rw [St.ex] at s
  obtain ⟨v, s⟩ := s
  rw [sep_assoc, St.pu, sep_assoc] at s
  exact ⟨bk, v, s.1.1, s.1.2, s.2⟩
theorem tp_mk {w : World} {fv v : Value} {bk : Nat} {T : Tp} (h : T.ok) (s : St B w0 w (pts bk (.cells #[fv, v, .int .i64 T.loose, .bool T.gone] 89 (0, 0)) * (row 5 1 v T.b.length (bvs T.b) * R))) :
    St B w0 w (tp (.pointer (some ⟨bk, 0, none⟩)) fv T * R) := by
  unfold tp
  rw [St.ex]
  refine ⟨bk, ?_⟩
  rw [St.ex]
  refine ⟨v, ?_⟩
  rw [sep_assoc, St.pu, sep_assoc]
  exact ⟨⟨rfl, h⟩, s⟩
/-- The empty tape. -/
def Tp.new : Tp := ⟨[], 0, false⟩
set_option maxHeartbeats 400000 in
theorem new_calls (x : Option Addr) (w : World) (s : St B w0 w R) :
    Calls Try.prog 40 #[.pointer x] w (NewS B w0 fun p => tp p (.pointer x) Tp.new * R) := by
  have S := Lib.hid s
  clear s
  go_enter Try.func40, Try.ntmps40
  go_wp2_with fail
  go_ret
  refine ⟨_, rfl, tp_mk (T := Tp.new) ⟨Nat.le_refl _, Nat.zero_le _⟩ (v := .slice none 0 0) ?_⟩
  have := (S.out.rowNil 5 1).alloc (.cells #[.pointer x, .slice none 0 0, .int .i64 0, .bool false] 89)
  exact this
/-- append. -/
def tApp (F : Option Fu) (T : Tp) (bs : List UInt8) : Int × Option Fu × Tp :=
  if T.gone = true then (5, F, T) else if 65536 < T.b.length + bs.length then (7, F, T) else if fdead F = true then (4, F, T) else (0, fspend F, ⟨T.b ++ bs, T.loose + bs.length, T.gone⟩)
/-- Bytes that can be read wherever these are owned. -/
def Reads (B : Nat) (w0 : World) (R : HP) (v : Value) (bs : List UInt8) : Prop := ∀ w H, St B w0 w (H * R) → BS w v bs
theorem reads_arg {w0 : World} {v : Value} {bs : List UInt8} (R : HP) (h : BS w0 v bs) : Reads w0.heap.size w0 R v bs := fun _ _ s => h.st rfl s
set_option maxHeartbeats 1000000 in
theorem append_calls (F : Option Fu) (T : Tp) (bs : List UInt8) (p : Value) (x : Option Addr) (a : Option Addr) (n c : Nat) (w : World) (hb : Reads B w0 R (.slice a n c) bs) (hn : n ≤ 4611686018427387904) (s : St B w0 w (tp p (.pointer x) T * (fz (.pointer x) F * R))) :
    Calls Try.prog 23 #[p, .slice a n c] w
      (RetS B w0 (tp p (.pointer x) (tApp F T bs).2.2 * (fz (.pointer x) (tApp F T bs).2.1 * R)) (.int .i64 (tApp F T bs).1)) := by
  have hbs := hb w _ (s.eq (sep_assoc _ _ _).symm)
  obtain rfl := hbs.rd.1
  obtain ⟨bk, v, rfl, hok, s1⟩ := tp_open s
  have c0 := s1.cell 0
  have c1 := s1.cell 1
  have c2 := s1.cell 2
  have c3 := s1.cell 3
  have f1 := s1.free 1
  have f2 := s1.free 2
  obtain ⟨b, loose, gone⟩ := T
  simp at c0 c1 c2 c3
  have S := Lib.hid s
  have HB := Lib.hid hb
  obtain ⟨ok1, ok2⟩ := hok
  simp at ok1 ok2
  cases gone with
  | true =>
    clear s s1 hb hbs
    go_enter Try.func23, Try.ntmps23
    go_wp2_with fail
    go_ret
    exact ⟨rfl, S.out⟩
  | false =>
    have r1 := s1.right.rowBS b rfl
    obtain ⟨-, av, cv, rfl, -⟩ := r1
    by_cases hlen : 65536 < b.length + bs.length
    · have e : tApp F ⟨b, loose, false⟩ bs = (7, F, ⟨b, loose, false⟩) := by simp [tApp, hlen]
      rw [e]
      have hlen' : (65536 : Int) < (b.length : Int) + (bs.length : Int) := by omega
      clear s s1 hb hbs e hlen
      go_enter Try.func23, Try.ntmps23
      go_wp2_with fail
      go_ret
      exact ⟨rfl, S.out⟩
    · have hlen' : ¬ (65536 : Int) < (b.length : Int) + (bs.length : Int) := by omega
      by_cases hd : fdead F = true
      · have e : tApp F ⟨b, loose, false⟩ bs = (4, F, ⟨b, loose, false⟩) := by simp [tApp, hlen, hd]
        rw [e]
        have Q := Lib.hid (spend_no F (.pointer x) w hd (R := tp (.pointer (some ⟨bk, 0, none⟩)) (.pointer x) ⟨b, loose, false⟩ * R) (s.eq (by ac_rfl)))
        clear s s1 hb hbs e hlen hd
        go_enter Try.func23, Try.ntmps23
        go_wp2_with fail
        refine Q.out.mono ?_
        rintro e w1 ⟨rfl, s1⟩
        have S1 := Lib.hid s1
        clear s1
        go_wp2_with fail
        go_ret
        exact ⟨rfl, S1.out.eq (by ac_rfl)⟩
      · have hd' : fdead F = false := by simpa using hd
        have e : tApp F ⟨b, loose, false⟩ bs = (0, fspend F, ⟨b ++ bs, loose + bs.length, false⟩) := by simp [tApp, hlen, hd']
        rw [e]
        have Q := Lib.hid (spend_yes F (.pointer x) w hd' (R := pts bk (.cells #[.pointer x, .slice av b.length cv, .int .i64 loose, .bool false] 89 (0, 0)) * (row 5 1 (.slice av b.length cv) b.length (bvs b) * R)) (s1.eq (by ac_rfl)))
        clear s s1 hb hbs e hd hd' f1 f2
        go_enter Try.func23, Try.ntmps23
        go_wp2_with fail
        refine Q.out.mono ?_
        rintro e w1 ⟨rfl, s1⟩
        have s2 : St B w0 w1 (pts bk (.cells #[.pointer x, .slice av b.length cv, .int .i64 loose, .bool false] 89 (0, 0)) * (row 5 1 (.slice av b.length cv) b.length (bvs b) * (fz (.pointer x) (fspend F) * R))) := s1.eq (by ac_rfl)
        have hb1 := Lib.hid (HB.out w1 _ (s2.eq (by rw [← sep_assoc, ← sep_assoc])))
        have S2 := Lib.hid s2
        have S3 := Lib.hid (St.eq (Q := row 5 1 (.slice av b.length cv) b.length (bvs b) * (pts bk (.cells #[.pointer x, .slice av b.length cv, .int .i64 loose, .bool false] 89 (0, 0)) * (fz (.pointer x) (fspend F) * R))) (by ac_rfl) s2)
        have d1 := s2.cell 1
        simp at d1
        clear s1 s2 Q S HB c0 c1 c2 c3
        go_wp2_with (at_builtin; go_must (refine wpl_appendB rfl _ _ rfl tB S3.out a bs.length c hb1.out rfl rfl (by omega) ?_); intro a2 c2 w2 s2; have s3 := St.eq (Q := pts bk (.cells #[.pointer x, .slice av b.length cv, .int .i64 loose, .bool false] 89 (0, 0)) * (row 5 1 (.slice a2 (b ++ bs).length c2) (b ++ bs).length (bvs (b ++ bs)) * (fz (.pointer x) (fspend F) * R))) (by ac_rfl) s2; have e1 := s3.cell 1; have e2 := s3.cell 2; have g1 := s3.free 1; have g2 := s3.free 2; simp at e1 e2; have S4 := Lib.hid s3; clear s2 s3 d1)
        go_ret
        rw [← List.length_append]
        exact ⟨rfl, tp_mk (v := .slice a2 (b ++ bs).length c2) (T := ⟨b ++ bs, loose + bs.length, false⟩) ⟨by simp; omega, by simp; omega⟩ ((S4.out.set 1 (.slice a2 (b ++ bs).length c2)).set 2 (.int .i64 ((loose : Int) + bs.length)))⟩
/-- Sync. -/
def tSync (F : Option Fu) (T : Tp) : Int × Tp := if T.gone = true then (5, T) else if fdead F = true then (4, T) else (0, ⟨T.b, 0, T.gone⟩)
set_option maxHeartbeats 1000000 in
theorem sync_calls (F : Option Fu) (T : Tp) (p : Value) (x : Option Addr) (w : World) (s : St B w0 w (tp p (.pointer x) T * (fz (.pointer x) F * R))) :
    Calls Try.prog 24 #[p] w (RetS B w0 (tp p (.pointer x) (tSync F T).2 * (fz (.pointer x) F * R)) (.int .i64 (tSync F T).1)) := by
  obtain ⟨bk, v, rfl, hok, s1⟩ := tp_open s
  have c0 := s1.cell 0
  have c3 := s1.cell 3
  obtain ⟨b, loose, gone⟩ := T
  simp at c0 c3
  have S := Lib.hid s
  have HOK := Lib.hid hok
  cases gone with
  | true =>
    clear s s1 hok
    go_enter Try.func24, Try.ntmps24
    go_wp2_with fail
    go_ret
    exact ⟨rfl, S.out⟩
  | false =>
    have q := dead_calls F (.pointer x) w (R := tp (.pointer (some ⟨bk, 0, none⟩)) (.pointer x) ⟨b, loose, false⟩ * R) (s.eq (by ac_rfl))
    by_cases hd : fdead F = true
    · rw [hd] at q
      have e : tSync F ⟨b, loose, false⟩ = (4, ⟨b, loose, false⟩) := by simp [tSync, hd]
      rw [e]
      have Q := Lib.hid q
      clear s s1 e hd q hok
      go_enter Try.func24, Try.ntmps24
      go_wp2_with fail
      refine Q.out.mono ?_
      rintro e w1 ⟨rfl, s1⟩
      have S1 := Lib.hid s1
      clear s1
      go_wp2_with fail
      go_ret
      exact ⟨rfl, S1.out.eq (by ac_rfl)⟩
    · have hd' : fdead F = false := by simpa using hd
      rw [hd'] at q
      have e : tSync F ⟨b, loose, false⟩ = (0, ⟨b, 0, false⟩) := by simp [tSync, hd']
      rw [e]
      have Q := Lib.hid q
      clear s s1 e hd hd' q hok
      go_enter Try.func24, Try.ntmps24
      go_wp2_with fail
      refine Q.out.mono ?_
      rintro e w1 ⟨rfl, s1⟩
      have s2 := s1.eq (Q := tp (.pointer (some ⟨bk, 0, none⟩)) (.pointer x) ⟨b, loose, false⟩ * (fz (.pointer x) F * R)) (by ac_rfl)
      obtain ⟨bk', v', e', -, s3⟩ := tp_open s2
      obtain rfl : bk = bk' := by simpa using e'
      have d2 := s3.cell 2
      have g2 := s3.free 2
      simp at d2
      have S3 := Lib.hid s3
      clear s1 s2 s3 e' Q S c0 c3
      go_wp2_with fail
      go_ret
      exact ⟨rfl, tp_mk (T := ⟨b, 0, false⟩) ⟨Nat.zero_le _, HOK.out.2⟩ (S3.out.set 2 (.int .i64 0))⟩
set_option maxHeartbeats 400000 in
theorem live_calls (T : Tp) (p fv : Value) (w : World) (s : St B w0 w (tp p fv T * R)) :
    Calls Try.prog 37 #[p] w (RetS B w0 (tp p fv T * R) (.bool (!T.gone))) := by
  obtain ⟨bk, v, rfl, hok, s1⟩ := tp_open s
  have c3 := s1.cell 3
  simp at c3
  have S := Lib.hid s
  clear s s1 hok
  obtain ⟨b, loose, gone⟩ := T
  cases gone <;>
  · go_enter Try.func37, Try.ntmps37
    go_wp2_with fail
    go_ret
    exact ⟨rfl, S.out⟩
set_option maxHeartbeats 400000 in
theorem fail_calls (T : Tp) (p fv : Value) (w : World) (s : St B w0 w (tp p fv T * R)) :
    Calls Try.prog 21 #[p] w (RetS B w0 (tp p fv ⟨T.b, T.loose, true⟩ * R) (.tuple #[])) := by
  obtain ⟨bk, v, rfl, hok, s1⟩ := tp_open s
  have c3 := s1.cell 3
  have f3 := s1.free 3
  simp at c3
  have S1 := Lib.hid s1
  have HOK := Lib.hid hok
  clear s s1 hok
  go_enter Try.func21, Try.ntmps21
  go_wp2_with fail
  go_end0
  exact ⟨rfl, tp_mk (T := ⟨T.b, T.loose, true⟩) HOK.out (S1.out.set 3 (.bool true))⟩
set_option maxHeartbeats 400000 in
theorem replace_calls (T : Tp) (p : Value) (x : Option Addr) (w : World) (s : St B w0 w (tp p (.pointer x) T * R)) :
    Calls Try.prog 26 #[p] w (RetS B w0 (tp p (.pointer x) Tp.new * R) (.tuple #[])) := by
  obtain ⟨bk, v, rfl, hok, s1⟩ := tp_open s
  have c0 := s1.cell 0
  have c1 := s1.cell 1
  have c2 := s1.cell 2
  have c3 := s1.cell 3
  have f0 := s1.free 0
  have f1 := s1.free 1
  have f2 := s1.free 2
  have f3 := s1.free 3
  simp at c0 c1 c2 c3
  have S1 := Lib.hid s1
  have HOK := Lib.hid hok
  clear s s1 hok
  go_enter Try.func26, Try.ntmps26
  go_wp2_with fail
  go_end0
  have q := (((S1.out.set 0 (.pointer x)).set 1 (.slice none 0 0)).set 2 (.int .i64 0)).set 3 (.bool false)
  have q2 := (St.eq (Q := row 5 1 v T.b.length (bvs T.b) * (pts bk (.cells #[.pointer x, .slice none 0 0, .int .i64 0, .bool false] 89 (0, 0)) * R)) (by ac_rfl) q).right
  have q3 := q2.rowNil 5 1
  exact ⟨rfl, tp_mk (v := .slice none 0 0) (T := Tp.new) ⟨Nat.le_refl _, Nat.zero_le _⟩ (q3.eq (by rw [← sep_assoc, ← sep_assoc, sep_comm (row _ _ _ _ _)]; rfl))⟩
/-- New bytes and a number are handed back. -/
def RetRow (B : Nat) (w0 : World) (H : HP) (bs : List UInt8) (n : Int) (e : Ending) (w' : World) : Prop :=
  ∃ a c, e = .returned (.tuple #[.slice a bs.length c, .int .i64 n]) ∧ St B w0 w' (row 5 1 (.slice a bs.length c) bs.length (bvs bs) * H)
/-- What Bytes tells. -/
def tBytes (T : Tp) : List UInt8 := if T.gone = true then [] else T.b
def tErr (T : Tp) : Int := if T.gone = true then 5 else 0
set_option maxHeartbeats 400000 in
theorem bytes_calls (T : Tp) (p fv : Value) (w : World) (s : St B w0 w (tp p fv T * R)) :
    Calls Try.prog 38 #[p] w (RetRow B w0 (tp p fv T * R) (tBytes T) (tErr T)) := by
  obtain ⟨bk, v, rfl, hok, s1⟩ := tp_open s
  have c1 := s1.cell 1
  have c3 := s1.cell 3
  obtain ⟨b, loose, gone⟩ := T
  simp at c1 c3
  have S := Lib.hid s
  obtain ⟨ok1, ok2⟩ := hok
  simp at ok1 ok2
  cases gone with
  | true =>
    clear s s1
    go_enter Try.func38, Try.ntmps38
    go_wp2_with fail
    go_ret2
    exact ⟨none, 0, rfl, S.out.rowNil _ _⟩
  | false =>
    obtain ⟨-, av, cv, rfl, -, hb⟩ := s1.right.rowBS b rfl
    have Q := Lib.hid (clone_calls av cv b w hb (by omega) s)
    clear s s1 hb
    go_enter Try.func38, Try.ntmps38
    go_wp2_with fail
    refine Q.out.mono ?_
    rintro e w1 ⟨v', rfl, s2, -⟩
    obtain ⟨-, a2, c2, rfl, -, -⟩ := s2.rowBS b rfl
    have S2 := Lib.hid s2
    clear s2 Q S
    go_wp2_with fail
    go_ret2
    exact ⟨a2, c2, rfl, S2.out⟩
/-- Cut. -/
def tCut (F : Option Fu) (T : Tp) (n : Int) : Int × Option Fu × Tp :=
  if T.gone = true then (5, F, T) else if n < 0 ∨ (T.b.length : Int) < n then (1, F, T) else if fdead F = true then (4, F, T) else (0, fspend F, ⟨T.b.take n.toNat, 0, T.gone⟩)
set_option maxHeartbeats 1000000 in
theorem cut_calls (F : Option Fu) (T : Tp) (n : Int) (p : Value) (x : Option Addr) (w : World) (s : St B w0 w (tp p (.pointer x) T * (fz (.pointer x) F * R))) :
    Calls Try.prog 59 #[p, .int .i64 n] w
      (RetS B w0 (tp p (.pointer x) (tCut F T n).2.2 * (fz (.pointer x) (tCut F T n).2.1 * R)) (.int .i64 (tCut F T n).1)) := by
  obtain ⟨bk, v, rfl, hok, s1⟩ := tp_open s
  have c0 := s1.cell 0
  have c1 := s1.cell 1
  have c3 := s1.cell 3
  obtain ⟨b, loose, gone⟩ := T
  simp at c0 c1 c3
  have S := Lib.hid s
  obtain ⟨ok1, ok2⟩ := hok
  simp at ok1 ok2
  cases gone with
  | true =>
    clear s s1
    go_enter Try.func59, Try.ntmps59
    go_wp2_with fail
    go_ret
    exact ⟨rfl, S.out⟩
  | false =>
    obtain ⟨-, av, cv, rfl, -⟩ := s1.right.rowBS b rfl
    by_cases hn0 : n < 0
    · have e : tCut F ⟨b, loose, false⟩ n = (1, F, ⟨b, loose, false⟩) := by simp [tCut, hn0]
      rw [e]
      clear s s1 e
      go_enter Try.func59, Try.ntmps59
      go_wp2_with fail
      go_ret
      exact ⟨rfl, S.out⟩
    · by_cases hn1 : (b.length : Int) < n
      · have e : tCut F ⟨b, loose, false⟩ n = (1, F, ⟨b, loose, false⟩) := by simp [tCut, hn1]
        rw [e]
        clear s s1 e
        go_enter Try.func59, Try.ntmps59
        go_wp2_with fail
        go_ret
        exact ⟨rfl, S.out⟩
      · obtain ⟨m, rfl⟩ : ∃ m : Nat, n = m := ⟨n.toNat, by omega⟩
        have hm : m ≤ b.length := by omega
        by_cases hd : fdead F = true
        · have e : tCut F ⟨b, loose, false⟩ m = (4, F, ⟨b, loose, false⟩) := by
            simp [tCut, hd]; omega
          rw [e]
          have Q := Lib.hid (spend_no F (.pointer x) w hd (R := tp (.pointer (some ⟨bk, 0, none⟩)) (.pointer x) ⟨b, loose, false⟩ * R) (s.eq (by ac_rfl)))
          clear s s1 e hd
          go_enter Try.func59, Try.ntmps59
          go_wp2_with fail
          refine Q.out.mono ?_
          rintro e w1 ⟨rfl, s1⟩
          have S1 := Lib.hid s1
          clear s1
          go_wp2_with fail
          go_ret
          exact ⟨rfl, S1.out.eq (by ac_rfl)⟩
        · have hd' : fdead F = false := by simpa using hd
          have e : tCut F ⟨b, loose, false⟩ m = (0, fspend F, ⟨b.take m, 0, false⟩) := by
            simp [tCut, hd']; omega
          rw [e]
          have Q := Lib.hid (spend_yes F (.pointer x) w hd' (R := pts bk (.cells #[.pointer x, .slice av b.length cv, .int .i64 loose, .bool false] 89 (0, 0)) * (row 5 1 (.slice av b.length cv) b.length (bvs b) * R)) (s1.eq (by ac_rfl)))
          have hmc := (s1.right.rowCut m hm).2.1
          have hsl := fun w => run_slice_hm' tB w av b.length cv m .i64 .i64 hmc
          clear s s1 e hd hd'
          go_enter Try.func59, Try.ntmps59
          go_wp2_with fail
          refine Q.out.mono ?_
          rintro e w1 ⟨rfl, s1⟩
          have s2 : St B w0 w1 (row 5 1 (.slice av b.length cv) b.length (bvs b) * (pts bk (.cells #[.pointer x, .slice av b.length cv, .int .i64 loose, .bool false] 89 (0, 0)) * (fz (.pointer x) (fspend F) * R))) := s1.eq (by ac_rfl)
          have s3 := (s2.rowCut m hm).2.2
          have s4 := St.eq (Q := pts bk (.cells #[.pointer x, .slice av b.length cv, .int .i64 loose, .bool false] 89 (0, 0)) * (row 5 1 (.slice av m m) m ((bvs b).take (m * 1)) * (fz (.pointer x) (fspend F) * R))) (by ac_rfl) s3
          have d0 := s4.cell 0
          have d1 := s4.cell 1
          have d2 := s4.cell 2
          have d3 := s4.cell 3
          have g0 := s4.free 0
          have g1 := s4.free 1
          have g2 := s4.free 2
          have g3 := s4.free 3
          simp at d0 d1 d2 d3
          have S4 := Lib.hid s4
          clear s1 s2 s3 s4 Q S c0 c1 c3
          go_wp2_with fail
          go_ret
          have hl : (b.take m).length = m := by rw [List.length_take]; omega
          refine ⟨rfl, tp_mk (v := .slice av m m) (T := ⟨b.take m, 0, false⟩) ⟨Nat.zero_le _, by rw [hl]; omega⟩ ?_⟩
          have q := (S4.out.set 1 (.slice av m m)).set 2 (.int .i64 0)
          show St B w0 _ (_ * (row _ 1 _ (b.take m).length (bvs (b.take m)) * _))
          rw [hl, show bvs (b.take m) = (bvs b).take (m * 1) by rw [Nat.mul_one]; exact List.map_take]
          exact q
/-- Crash. -/
def tCrash (T : Tp) (k : Int) : Tp := ⟨T.b.take (T.b.length - T.loose + min k.toNat T.loose), 0, T.gone⟩
set_option maxHeartbeats 1000000 in
theorem crash_calls (T : Tp) (k : Int) (p fv : Value) (w : World) (hk : k ≤ 9223372036854775807) (s : St B w0 w (tp p fv T * R)) :
    Calls Try.prog 20 #[p, .int .i64 k] w (RetS B w0 (tp p fv (tCrash T k) * R) (.tuple #[])) := by
  obtain ⟨bk, v, rfl, hok, s1⟩ := tp_open s
  obtain ⟨b, loose, gone⟩ := T
  obtain ⟨-, av, cv, rfl, -⟩ := s1.right.rowBS b rfl
  have c0 := s1.cell 0
  have c1 := s1.cell 1
  have c2 := s1.cell 2
  have c3 := s1.cell 3
  have f0 := s1.free 0
  have f1 := s1.free 1
  have f2 := s1.free 2
  have f3 := s1.free 3
  simp at c0 c1 c2 c3
  obtain ⟨ok1, ok2⟩ := hok
  simp at ok1 ok2
  have hm := fun w : World => run_max2 (P := Try.prog) w .i64 #[3, 3] 3 k 0
  have hn := fun w : World => run_min2 (P := Try.prog) w .i64 #[3, 3] 3 (max k 0) loose
  have hN : (b.length : Int) - loose + min (max k 0) loose = ((b.length - loose + min k.toNat loose : Nat) : Int) := by omega
  have hle : b.length - loose + min k.toNat loose ≤ b.length := by omega
  have hT : tCrash ⟨b, loose, gone⟩ k = ⟨b.take (b.length - loose + min k.toNat loose), 0, gone⟩ := rfl
  rw [hT]
  generalize b.length - loose + min k.toNat loose = m at hN hle
  have hmc := (s1.right.rowCut m hle).2.1
  have hsl := fun w => run_slice_hm' tB w av b.length cv m .i64 .i64 hmc
  have HN := Lib.hid hN
  have Hsl := Lib.hid hsl
  have S1 := Lib.hid s1
  clear hN hsl s1
  clear s hT
  go_enter Try.func20, Try.ntmps20
  go_wp2_with fail
  go_quiet (fail)
  rw [HN.out]
  have hsl := Hsl.out
  generalize e : w.drewN nq = w2 at *
  have s2 : St B w0 w2 _ := e ▸ S1.out.drewN nq
  have s3 := s2.eq (Q := row 5 1 (.slice av b.length cv) b.length (bvs b) * (pts bk (.cells #[fv, .slice av b.length cv, .int .i64 loose, .bool gone] 89 (0, 0)) * R)) (by ac_rfl)
  have s4 := St.eq (Q := pts bk (.cells #[fv, .slice av b.length cv, .int .i64 loose, .bool gone] 89 (0, 0)) * (row 5 1 (.slice av m m) m ((bvs b).take (m * 1)) * R)) (by ac_rfl) (s3.rowCut m hle).2.2
  clear c0 c1 c2 c3 f0 f1 f2 f3
  have c0 := s4.cell 0
  have c1 := s4.cell 1
  have c2 := s4.cell 2
  have c3 := s4.cell 3
  have f0 := s4.free 0
  have f1 := s4.free 1
  have f2 := s4.free 2
  have f3 := s4.free 3
  simp at c0 c1 c2 c3
  have S4 := Lib.hid s4
  clear s2 s3 s4 e hm hn
  go_wp2_with fail
  go_end0
  have hl : (b.take m).length = m := by rw [List.length_take]; omega
  refine ⟨rfl, tp_mk (v := .slice av m m) (T := ⟨b.take m, 0, gone⟩) ⟨Nat.zero_le _, by rw [hl]; omega⟩ ?_⟩
  have q := (S4.out.set 1 (.slice av m m)).set 2 (.int .i64 0)
  show St B w0 _ (_ * (row _ 1 _ (b.take m).length (bvs (b.take m)) * _))
  rw [hl, show bvs (b.take m) = (bvs b).take (m * 1) by rw [Nat.mul_one]; exact List.map_take]
  exact q
end
end Go.Proofs.Ytkkkncchinejmaa.TapW
