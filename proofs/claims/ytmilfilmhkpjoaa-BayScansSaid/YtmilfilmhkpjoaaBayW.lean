/- Package bay, walked: New, is, Hold, Give, Take, Used, Free. No condition. -/
import Derived.Test.YtmilfilmhkpjoaaDskV
import Derived.Test.YtmilfilmhkpjoaaIs
import Derived.Test.YtmilfilmhkpjoaaRo
namespace Go.Proofs.Ytmilfilmhkpjoaa.BayW
open Go Go.RowKit Go.Proofs.Ytmilfilmhkpjoaa Go.Proofs.Ytmilfilmhkpjoaa.Sp Go.Proofs.Ytmilfilmhkpjoaa.Reg Go.Proofs.Ytmilfilmhkpjoaa.SlW Go.Proofs.Ytmilfilmhkpjoaa.Fus Go.Proofs.Ytmilfilmhkpjoaa.Rd Go.Proofs.Ytmilfilmhkpjoaa.DskW
theorem tI : SlT Try.prog 22 3 1 8 (.int .i64 0) := ⟨Try.underlying22, info_parts (by kernel_rfl), rfl, by decide⟩
/-- A slot's mark. -/
def uz (u : Bool) : Int := if u then 1 else 0
def uv (us : List Bool) : List Value := us.map fun u => .int .i64 (uz u)
theorem uv_len (us : List Bool) : (uv us).length = us.length := List.length_map _
/-- A bay. -/
def bay (b : Nat) (p : Value) (g c : Nat) (us : List Bool) : HP :=
  pts b (.cells #[p, .slice (some ⟨g, 0, none⟩) us.length c] 96 (0, 0)) * row 3 1 (.slice (some ⟨g, 0, none⟩) us.length c) us.length (uv us)
/-- Whether a slot is there and marked so. -/
def can (us : List Bool) (i : Int) (u : Bool) : Bool := decide (0 ≤ i ∧ i < us.length) && (us.getD i.toNat false == u)
section
variable {B : Nat} {w0 : World} {R : HP}
theorem bay_cells {b g c : Nat} {p : Value} {us : List Bool} {w : World} (s : St B w0 w (bay b p g c us * R)) :
    w.cell? ⟨b, 0, none⟩ = some p ∧ w.cell? ⟨b, 1, none⟩ = some (.slice (some ⟨g, 0, none⟩) us.length c) ∧ (∀ k, k < us.length → w.cell? ⟨g, k, none⟩ = some (.int .i64 (uz (us.getD k false)))) ∧
      (∀ k, w.frozen? ⟨g, k, none⟩ = false) ∧ ∀ k v, k < us.length → St B w0 (w.setCell ⟨g, k, none⟩ (.int .i64 (uz v))) (bay b p g c (us.set k v) * R) := by
  have s1 := s.eq (sep_assoc _ _ _)
  obtain ⟨-, -, -, -, h1, h2, h3⟩ := St.row1 (s1.eq (sep_left_comm _ _ _))
  refine ⟨s1.cell 0, s1.cell 1, fun k hk => ?_, h2, fun k v hk => ?_⟩
  · rw [h1 k hk]
    simp [uv, hk, List.getD]
  · have q := h3 k (.int .i64 (uz v)) hk
    rw [show (uv us).set k (.int .i64 (uz v)) = uv (us.set k v) by simp [uv, List.map_set]] at q
    unfold bay
    rw [List.length_set]
    exact q.eq (by ac_rfl)
set_option maxRecDepth 100000 in
set_option maxHeartbeats 4000000 in
theorem new_calls (D : Dk) (p fv : Value) (hD : D.lasts.length ≤ 64) (w : World) (s : St B w0 w (dk p fv D * R)) :
    Calls Try.prog 12 #[p] w fun e w' => ∃ b g c, e = .returned (.pointer (some ⟨b, 0, none⟩)) ∧ St B w0 w' (bay b p g c (List.replicate D.lasts.length false) * (dk p fv D * R)) := by
  obtain ⟨bk0, _, _, _, _, rfl, -⟩ := dk_open s
  have q := slots_calls D _ fv w s
  generalize D.lasts.length = n at *
  have Q := Lib.hid q
  clear q s
  go_enter Try.func12, Try.ntmps12
  go_wp2_with fail
  refine Q.out.mono ?_
  rintro e w1 ⟨rfl, s⟩
  have S := Lib.hid s
  clear s Q
  go_wp2_with (at_make; go_must (refine wpl_make1 rfl _ _ rfl tI rfl S.out .i64 .i64 n n rfl rfl (Nat.le_refl _) (by unfold maxLen; omega) (by omega) ?_); intro g3 w3 s3; clear S; have S := Lib.hid s3; clear s3)
  go_wp2_with fail
  go_ret
  refine ⟨_, g3, n, rfl, ?_⟩
  have s4 := S.out.alloc (.cells #[.pointer (some ⟨bk0, 0, none⟩), .slice (some ⟨g3, 0, none⟩) n n] 96)
  unfold bay
  rw [List.length_replicate, show uv (List.replicate n false) = List.replicate n (.int .i64 0) by simp [uv, uz]]
  exact s4.eq (by ac_rfl)
set_option maxRecDepth 100000 in
set_option maxHeartbeats 4000000 in
theorem is_calls (b g c : Nat) (p : Value) (us : List Bool) (i : Int) (u : Bool) (w : World) (s : St B w0 w (bay b p g c us * R)) :
    Calls Try.prog 59 #[.pointer (some ⟨b, 0, none⟩), .int .i64 i, .int .i64 (uz u)] w (RetS B w0 (bay b p g c us * R) (.bool (can us i u))) := by
  obtain ⟨-, c1, c2, -, -⟩ := bay_cells s
  have S := Lib.hid s
  have C2 := Lib.hid c2
  clear s c2
  generalize hn : us.length = n at *
  by_cases h0 : 0 ≤ i
  · obtain ⟨k, rfl⟩ : ∃ k : Nat, i = k := ⟨i.toNat, by omega⟩
    by_cases h1 : k < n
    · have c3 := C2.out k h1
      have h2 : (k : Int) < (n : Int) := by omega
      have HV := Lib.hid (show can us k u = (uz (us.getD k false) == uz u) from by
        unfold can
        rw [decide_eq_true (by omega), Bool.true_and, Int.toNat_natCast]
        cases us.getD k false <;> cases u <;> rfl)
      generalize uz (us.getD k false) = x at *
      generalize uz u = y at *
      clear hn
      go_enter Try.func59, Try.ntmps59
      go_wp2_with fail
      go_ret
      rw [HV.out]
      exact ⟨rfl, S.out⟩
    · have h2 : ¬ (k : Int) < (n : Int) := by omega
      have HV := Lib.hid (show can us k u = false from by unfold can; rw [decide_eq_false (by omega)]; rfl)
      generalize uz u = y at *
      clear hn h1
      go_enter Try.func59, Try.ntmps59
      go_wp2_with fail
      go_ret
      rw [HV.out]
      exact ⟨rfl, S.out⟩
  · have HV := Lib.hid (show can us i u = false from by unfold can; rw [decide_eq_false (by omega)]; rfl)
    generalize uz u = y at *
    clear hn
    go_enter Try.func59, Try.ntmps59
    go_wp2_with fail
    go_ret
    rw [HV.out]
    exact ⟨rfl, S.out⟩
/-- A slot's mark turned, where it may be. -/
def put (us : List Bool) (i : Int) (u v : Bool) : List Bool := if can us i u then us.set i.toNat v else us
theorem put_len (us : List Bool) (i : Int) (u v : Bool) : (put us i u v).length = us.length := by unfold put; split <;> simp
theorem can_lt {us : List Bool} {i : Int} {u : Bool} (h : can us i u = true) : ∃ k : Nat, i = k ∧ k < us.length ∧ us.getD k false = u := by
  unfold can at h
  rw [Bool.and_eq_true, decide_eq_true_eq, beq_iff_eq] at h
  exact ⟨i.toNat, by omega, by omega, h.2⟩
set_option maxRecDepth 100000 in
set_option maxHeartbeats 4000000 in
theorem hold_calls (b g c : Nat) (p : Value) (us : List Bool) (i : Int) (w : World) (s : St B w0 w (bay b p g c us * R)) :
    Calls Try.prog 14 #[.pointer (some ⟨b, 0, none⟩), .int .i64 i] w (RetS B w0 (bay b p g c (put us i false true) * R) (.bool (can us i false))) := by
    cases hc : can us i false with
    | true =>
      obtain ⟨k, rfl, hk, -⟩ := can_lt hc
      have hp : put us k false true = us.set k true := by unfold put; rw [hc]; rfl
      rw [hp]
      have q := is_calls b g c p us k false w s
      rw [hc] at q
      simp only [uz, if_true, if_false, Bool.false_eq_true] at q
      have Q := Lib.hid q
      clear q hc hp
      go_enter Try.func14, Try.ntmps14
      go_wp2_with fail
      refine Q.out.mono ?_
      rintro e w1 ⟨rfl, s1⟩
      obtain ⟨-, c1, c2, f2, st⟩ := bay_cells s1
      have c3 := c2 k hk
      have f3 := f2 k
      have S1 := Lib.hid (st k true hk)
      have h2 : (k : Int) < (us.length : Int) := by omega
      clear c2 f2 st s1 s Q
      simp only [uz, if_true, if_false, Bool.false_eq_true] at S1
      go_wp2_with fail
      go_ret
      exact ⟨rfl, S1.out⟩
    | false =>
      have hp : put us i false true = us := by unfold put; rw [hc]; rfl
      rw [hp]
      have q := is_calls b g c p us i false w s
      rw [hc] at q
      simp only [uz, if_true, if_false, Bool.false_eq_true] at q
      have Q := Lib.hid q
      clear q hc hp s
      go_enter Try.func14, Try.ntmps14
      go_wp2_with fail
      refine Q.out.mono ?_
      rintro e w1 ⟨rfl, s1⟩
      have S1 := Lib.hid s1
      clear s1
      go_wp2_with fail
      go_ret
      exact ⟨rfl, S1.out⟩
set_option maxRecDepth 100000 in
set_option maxHeartbeats 4000000 in
theorem give_calls (b g c : Nat) (p : Value) (us : List Bool) (i : Int) (w : World) (s : St B w0 w (bay b p g c us * R)) :
    Calls Try.prog 18 #[.pointer (some ⟨b, 0, none⟩), .int .i64 i] w (RetS B w0 (bay b p g c (put us i true false) * R) (.bool (can us i true))) := by
    cases hc : can us i true with
    | true =>
      obtain ⟨k, rfl, hk, -⟩ := can_lt hc
      have hp : put us k true false = us.set k false := by unfold put; rw [hc]; rfl
      rw [hp]
      have q := is_calls b g c p us k true w s
      rw [hc] at q
      simp only [uz, if_true, if_false, Bool.false_eq_true] at q
      have Q := Lib.hid q
      clear q hc hp
      go_enter Try.func18, Try.ntmps18
      go_wp2_with fail
      refine Q.out.mono ?_
      rintro e w1 ⟨rfl, s1⟩
      obtain ⟨-, c1, c2, f2, st⟩ := bay_cells s1
      have c3 := c2 k hk
      have f3 := f2 k
      have S1 := Lib.hid (st k false hk)
      have h2 : (k : Int) < (us.length : Int) := by omega
      clear c2 f2 st s1 s Q
      simp only [uz, if_true, if_false, Bool.false_eq_true] at S1
      go_wp2_with fail
      go_ret
      exact ⟨rfl, S1.out⟩
    | false =>
      have hp : put us i true false = us := by unfold put; rw [hc]; rfl
      rw [hp]
      have q := is_calls b g c p us i true w s
      rw [hc] at q
      simp only [uz, if_true, if_false, Bool.false_eq_true] at q
      have Q := Lib.hid q
      clear q hc hp s
      go_enter Try.func18, Try.ntmps18
      go_wp2_with fail
      refine Q.out.mono ?_
      rintro e w1 ⟨rfl, s1⟩
      have S1 := Lib.hid s1
      clear s1
      go_wp2_with fail
      go_ret
      exact ⟨rfl, S1.out⟩
/-- Take's slot: the least that is not used. -/
def tk (us : List Bool) : Option Nat := us.findIdx? (!·)
theorem tk_some {us : List Bool} {k : Nat} (hk : k < us.length) (h : us.getD k false = false) (hb : ∀ j, j < k → us.getD j false = true) : tk us = some k := by
  unfold tk
  rw [List.findIdx?_eq_some_iff_getElem]
  refine ⟨hk, by simpa [List.getD, hk] using h, fun j hj => ?_⟩
  have := hb j hj
  simpa [List.getD, show j < us.length by omega] using this
theorem tk_none {us : List Bool} (hb : ∀ j, j < us.length → us.getD j false = true) : tk us = none := by
  unfold tk
  rw [List.findIdx?_eq_none_iff]
  intro x hx
  obtain ⟨j, hj, rfl⟩ := List.getElem_of_mem hx
  have := hb j hj
  simpa [List.getD, hj] using this
def TkP (B : Nat) (w0 : World) (b g c : Nat) (p : Value) (us : List Bool) (R : HP) (e : Ending) (w' : World) : Prop := match tk us with
  | some k => e = .returned (.tuple #[.int .i64 k, .bool true]) ∧ St B w0 w' (bay b p g c (us.set k true) * R)
  | none => e = .returned (.tuple #[.int .i64 0, .bool false]) ∧ St B w0 w' (bay b p g c us * R)
set_option maxRecDepth 100000 in
set_option maxHeartbeats 4000000 in
theorem take_calls (b g c : Nat) (p : Value) (us : List Bool) (hl : us.length ≤ 64) (w : World) (s : St B w0 w (bay b p g c us * R)) :
    Calls Try.prog 15 #[.pointer (some ⟨b, 0, none⟩)] w (TkP B w0 b g c p us R) := by
  obtain ⟨-, c1, -⟩ := bay_cells s
  have S := Lib.hid s
  clear s
  go_enter Try.func15, Try.ntmps15
  go_wp2_with fail
  clear c1
  go_loopw [10] (fun i wr => ∃ k : Nat, k ≤ us.length ∧ i = .int .i64 k ∧ (∀ j, j < k → us.getD j false = true) ∧ St B w0 wr (bay b p g c us * R)) (fun i _ => us.length - (intOf i).toNat)
  case atStart => exact ⟨0, Nat.zero_le _, rfl, fun j hj => absurd hj (Nat.not_lt_zero j), S.out⟩
  case round =>
    obtain ⟨k, hk, rfl, hb, s⟩ := hrel
    clear S
    have HB := Lib.hid hb
    clear hb
    by_cases hlt : k < us.length
    · have q := hold_calls b g c p us k _ s
      cases hu : us.getD k false with
      | false =>
        have hc : can us k false = true := by unfold can; rw [decide_eq_true (by omega), Int.toNat_natCast, hu]; rfl
        have hp : put us k false true = us.set k true := by unfold put; rw [hc]; rfl
        rw [hc, hp] at q
        have Q := Lib.hid q
        have T := Lib.hid (tk_some hlt hu HB.out)
        clear q s hc hp hu HB
        go_wp2_with fail
        refine Q.out.mono ?_
        rintro e w2 ⟨rfl, s⟩
        have S := Lib.hid s
        clear s Q
        go_wp2_with fail
        go_ret2
        unfold TkP
        rw [T.out]
        exact ⟨rfl, S.out⟩
      | true =>
        have hc : can us k false = false := by unfold can; rw [Int.toNat_natCast, hu]; simp
        have hp : put us k false true = us := by unfold put; rw [hc]; rfl
        rw [hc, hp] at q
        have Q := Lib.hid q
        have HU := Lib.hid hu
        clear q s hc hp hu
        go_wp2_with fail
        refine Q.out.mono ?_
        rintro e w2 ⟨rfl, s⟩
        have S := Lib.hid s
        clear s Q
        go_wp2_with fail
        go_roundw
        case rel => exact ⟨k + 1, by omega, by go_num, fun j hj => by by_cases e : j = k; (subst e; exact HU.out); exact HB.out j (by omega), S.out⟩
        case measure => simp [intOf]; omega
    · obtain rfl : k = us.length := by omega
      have T := Lib.hid (tk_none HB.out)
      have S := Lib.hid s
      clear s HB
      go_wp2_with fail
      go_ret2
      unfold TkP
      rw [T.out]
      exact ⟨rfl, S.out⟩
end
end Go.Proofs.Ytmilfilmhkpjoaa.BayW
