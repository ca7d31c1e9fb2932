/- The Fuse, walked: what its functions do to the two cells that it is. No condition. -/
import Derived.Test.YtkkkncchinejmaaSlW
namespace Go.Proofs.Ytkkkncchinejmaa.Fus
open Go Go.RowKit Go.Proofs.Ytkkkncchinejmaa Go.Proofs.Ytkkkncchinejmaa.Sp Go.Proofs.Ytkkkncchinejmaa.Reg Go.Proofs.Ytkkkncchinejmaa.SlW

/-- What is returned, and what is owned behind the call. -/
def RetS (B : Nat) (w0 : World) (H : HP) (v : Value) (e : Ending) (w' : World) : Prop := e = .returned v ∧ St B w0 w' H
/-- A Fuse. -/
structure Fu where
  left : Nat
  bound : Bool
def fdead : Option Fu → Bool
  | none => false
  | some f => f.bound && decide (f.left = 0)
def fspend : Option Fu → Option Fu
  | none => none
  | some f => some (if f.bound = true then { f with left := f.left - 1 } else f)
/-- The Fuse that a pointer leads to, or none. -/
def fz (v : Value) : Option Fu → HP
  | none => pur (v = .pointer none)
  | some f => exi fun b => pur (v = .pointer (some ⟨b, 0, none⟩) ∧ f.left ≤ 9223372036854775807) * pts b (.cells #[.int .i64 f.left, .bool f.bound] 81 (0, 0))
theorem fz_none {B : Nat} {w0 w : World} {R : HP} {v : Value} (s : St B w0 w (fz v none * R)) : v = .pointer none ∧ St B w0 w R := by
  have s : St B w0 w (pur (v = .pointer none) * R) := s
  rw [St.pu] at s
  exact s
theorem fz_some {B : Nat} {w0 w : World} {R : HP} {v : Value} {f : Fu} (s : St B w0 w (fz v (some f) * R)) :
    ∃ b, v = .pointer (some ⟨b, 0, none⟩) ∧ f.left ≤ 9223372036854775807 ∧ St B w0 w (pts b (.cells #[.int .i64 f.left, .bool f.bound] 81 (0, 0)) * R) := by
  have s : St B w0 w ((exi fun b => pur (v = .pointer (some ⟨b, 0, none⟩) ∧ f.left ≤ 9223372036854775807) * pts b (.cells #[.int .i64 f.left, .bool f.bound] 81 (0, 0))) * R) := s
  rw [St.ex] at s
  obtain ⟨b, s⟩ := s
  rw [sep_assoc, St.pu] at s
  exact ⟨b, s.1.1, s.1.2, s.2⟩
theorem fz_mk {B : Nat} {w0 w : World} {R : HP} {b : Nat} {f : Fu} (h : f.left ≤ 9223372036854775807) (s : St B w0 w (pts b (.cells #[.int .i64 f.left, .bool f.bound] 81 (0, 0)) * R)) : St B w0 w (fz (.pointer (some ⟨b, 0, none⟩)) (some f) * R) := by
  show St B w0 w ((exi fun b' => pur (Value.pointer (some ⟨b, 0, none⟩) = .pointer (some ⟨b', 0, none⟩) ∧ f.left ≤ 9223372036854775807) * pts b' (.cells #[.int .i64 f.left, .bool f.bound] 81 (0, 0))) * R)
  rw [St.ex]
  refine ⟨b, ?_⟩
  rw [sep_assoc, St.pu]
  exact ⟨⟨rfl, h⟩, s⟩

section
variable {B : Nat} {w0 : World} {R : HP}
set_option maxHeartbeats 400000 in
theorem dead_calls (F : Option Fu) (v : Value) (w : World) (s : St B w0 w (fz v F * R)) :
    Calls Try.prog 50 #[v] w (RetS B w0 (fz v F * R) (.bool (fdead F))) := by
  have S := Lib.hid s
  cases F with
  | none =>
    obtain ⟨rfl, -⟩ := fz_none s
    clear s
    go_enter Try.func50, Try.ntmps50
    go_wp2_with fail
    go_ret
    exact ⟨rfl, S.out⟩
  | some f =>
    obtain ⟨b, rfl, hl, s1⟩ := fz_some s
    have c0 := s1.cell 0
    have c1 := s1.cell 1
    simp at c0 c1
    clear s s1
    obtain ⟨l, bd⟩ := f
    cases bd with
    | false =>
      go_enter Try.func50, Try.ntmps50
      go_wp2_with fail
      go_ret
      exact ⟨rfl, S.out⟩
    | true =>
      have hd : ((l : Int) == 0) = decide (l = 0) := by rw [Bool.eq_iff_iff]; simp
      have HD := Lib.hid hd
      clear hd
      go_enter Try.func50, Try.ntmps50
      go_wp2_with fail
      go_ret
      exact ⟨by simp [fdead, HD.out], S.out⟩
set_option maxHeartbeats 400000 in
theorem spend_no (F : Option Fu) (v : Value) (w : World) (h : fdead F = true) (s : St B w0 w (fz v F * R)) :
    Calls Try.prog 49 #[v] w (RetS B w0 (fz v F * R) (.bool false)) := by
  have q := dead_calls F v w s
  rw [h] at q
  have Q := Lib.hid q
  clear s h q
  go_enter Try.func49, Try.ntmps49
  go_wp2_with fail
  refine Q.out.mono ?_
  rintro e w1 ⟨rfl, s1⟩
  have S1 := Lib.hid s1
  clear s1
  go_wp2_with fail
  go_ret
  exact ⟨rfl, S1.out⟩
set_option maxHeartbeats 400000 in
theorem spend_yes (F : Option Fu) (v : Value) (w : World) (h : fdead F = false) (s : St B w0 w (fz v F * R)) :
    Calls Try.prog 49 #[v] w (RetS B w0 (fz v (fspend F) * R) (.bool true)) := by
  have q := dead_calls F v w s
  rw [h] at q
  have Q := Lib.hid q
  clear s q
  cases F with
  | none =>
    clear h
    go_enter Try.func49, Try.ntmps49
    go_wp2_with fail
    refine Q.out.mono ?_
    rintro e w1 ⟨rfl, s1⟩
    obtain ⟨rfl, -⟩ := fz_none s1
    have S1 := Lib.hid s1
    clear s1 Q
    go_wp2_with fail
    go_ret
    exact ⟨rfl, S1.out⟩
  | some f =>
    have HH := Lib.hid h
    clear h
    go_enter Try.func49, Try.ntmps49
    go_wp2_with fail
    refine Q.out.mono ?_
    rintro e w1 ⟨rfl, s1⟩
    obtain ⟨l, bd⟩ := f
    obtain ⟨b, rfl, hl, s2⟩ := fz_some s1
    have c0 := s2.cell 0
    have c1 := s2.cell 1
    have f0 := s2.free 0
    simp at c0 c1 hl
    have S1 := Lib.hid s1
    have S2 := Lib.hid s2
    clear s1 s2 Q
    cases bd with
    | false =>
      go_wp2_with fail
      go_ret
      exact ⟨rfl, S1.out⟩
    | true =>
      have hne : l ≠ 0 := by
        have := HH.out
        simpa [fdead] using this
      have hpos : (1 : Int) ≤ l := by omega
      have HN := Lib.hid hne
      clear hne
      go_wp2_with fail
      go_ret
      have := S2.out.set 0 (.int .i64 ((l : Int) - 1))
      rw [show ((l : Int) - 1) = ((l - 1 : Nat) : Int) by omega] at *
      exact ⟨rfl, fz_mk (f := ⟨l - 1, true⟩) (by show l - 1 ≤ _; omega) this⟩
def Fu.new (k : Int) : Fu := ⟨k.toNat, decide (1 ≤ k)⟩
/-- A value is returned, and what is owned behind the call speaks of it. -/
def NewS (B : Nat) (w0 : World) (H : Value → HP) (e : Ending) (w' : World) : Prop := ∃ v, e = .returned v ∧ St B w0 w' (H v)
set_option maxHeartbeats 400000 in
theorem newFuse_calls (k : Int) (w : World) (hk : k ≤ 9223372036854775807) (s : St B w0 w R) :
    Calls Try.prog 15 #[.int .i64 k] w (NewS B w0 fun v => fz v (some (Fu.new k)) * R) := by
  have hm := fun w : World => run_max2 (P := Try.prog) w .i64 #[3, 3] 3 k 0
  have S := Lib.hid s
  have hmx : max k 0 = ((Fu.new k).left : Int) := by show max k 0 = (k.toNat : Int); omega
  have HM := Lib.hid hmx
  clear s hmx
  go_enter Try.func15, Try.ntmps15
  go_wp2_with fail
  go_ret
  refine ⟨_, rfl, fz_mk (by show k.toNat ≤ _; omega) ?_⟩
  rw [← HM.out]
  exact S.out.alloc _
set_option maxHeartbeats 400000 in
theorem set_calls (f : Fu) (v : Value) (k : Int) (w : World) (hk : k ≤ 9223372036854775807) (s : St B w0 w (fz v (some f) * R)) :
    Calls Try.prog 17 #[v, .int .i64 k] w (RetS B w0 (fz v (some (Fu.new k)) * R) (.tuple #[])) := by
  obtain ⟨b, rfl, hl, s1⟩ := fz_some s
  have S1 := Lib.hid s1
  clear s s1
  go_enter Try.func17, Try.ntmps17
  go_wp2_with fail
  refine (newFuse_calls k w hk S1.out).mono ?_
  rintro e w1 ⟨v, rfl, s2⟩
  obtain ⟨g, rfl, hl2, s3⟩ := fz_some s2
  have c0 := s3.cell 0
  have c1 := s3.cell 1
  simp at c0 c1 
  have s4 := s3.right
  have f0 := s4.free 0
  have f1 := s4.free 1
  have d0 := s4.cell 0
  have d1 := s4.cell 1
  simp at d0 d1
  have S4 := Lib.hid s4
  have H2 := Lib.hid hl2
  clear s2 s3 s4 S1 hl2
  go_wp2_with fail
  go_end0
  refine ⟨rfl, fz_mk H2.out ?_⟩
  exact (S4.out.set 0 _).set 1 _
end
end Go.Proofs.Ytkkkncchinejmaa.Fus
