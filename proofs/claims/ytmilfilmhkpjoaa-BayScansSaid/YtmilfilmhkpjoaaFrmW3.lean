/- The walks of bytes.Clone, bytes.Equal, frame.Put (none), frame.Take, frame.Holds. -/
import Derived.Test.YtmilfilmhkpjoaaFrmW2
import Derived.Test.YtmilfilmhkpjoaaSlW
namespace Go.Proofs.Ytmilfilmhkpjoaa.FrmW
open Go Go.RowKit Go.Proofs.Ytmilfilmhkpjoaa Go.Proofs.Ytmilfilmhkpjoaa.Sp Go.Proofs.Ytmilfilmhkpjoaa.Reg Go.Proofs.Ytmilfilmhkpjoaa.CrcW Go.Proofs.Ytmilfilmhkpjoaa.CrcM
open Go.Proofs.Ytmilfilmhkpjoaa.SlW (RetBS RetBSok RetNo)

set_option maxHeartbeats 400000 in
theorem put_no (id : Int) (a : Option Addr) (n c2 : Nat) (w : World) (h : ¬ (0 ≤ id ∧ id ≤ 4294967295 ∧ n ≤ 64)) :
    Calls Try.prog 60 #[.int .i64 id, .slice a n c2] w (RetNo w) := by
  by_cases h1 : id < 0
  · clear h
    go_enter Try.func60, Try.ntmps60
    go_wp2_with fail
    go_ret2
    exact ⟨rfl, Add.refl w⟩
  · by_cases h2 : 4294967295 < id
    · clear h
      go_enter Try.func60, Try.ntmps60
      go_wp2_with fail
      go_ret2
      exact ⟨rfl, Add.refl w⟩
    · have h3 : 64 < n := by omega
      clear h
      go_enter Try.func60, Try.ntmps60
      go_wp2_with fail
      go_ret2
      exact ⟨rfl, Add.refl w⟩
set_option maxHeartbeats 400000 in
theorem equal_calls (v1 v2 : Value) (l1 l2 : List UInt8) (w : World) (h1 : BS w v1 l1) (h2 : BS w v2 l2) :
    Calls Try.prog 89 #[v1, v2] w fun e w' => e = .returned (.bool (decide (l1 = l2))) ∧ w = w' := by
  obtain ⟨a1, c1, rfl, -⟩ := id h1
  obtain ⟨a2, c2, rfl, -⟩ := id h2
  have q1 := run_str (P := Try.prog) Try.underlying37 Try.underlying5 Try.underlying9 h1
  have q2 := run_str (P := Try.prog) Try.underlying37 Try.underlying5 Try.underlying9 h2
  clear h1 h2
  by_cases he : l1 = l2
  · subst he
    go_enter Try.func89, Try.ntmps89
    go_wp2_with fail
    go_ret
    exact ⟨by simp, rfl⟩
  · have hd : decide (l1 = l2) = false := decide_eq_false he
    rw [hd]
    have hne : ¬ ((⟨l1.toArray⟩ : ByteArray) = ⟨l2.toArray⟩) := by
      intro e
      injection e with e
      exact he (by simpa using e)
    clear hd
    have HE := Lib.hid he
    clear he
    go_enter Try.func89, Try.ntmps89
    go_wp2_with fail
    go_ret
    exact ⟨by simp [HE.out], rfl⟩
set_option maxHeartbeats 400000 in
theorem bclone_calls (a : Option Addr) (c : Nat) (bs : List UInt8) (w : World) (h : BS w (.slice a bs.length c) bs) (hsz : bs.length ≤ 1000000) :
    Calls Try.prog 88 #[.slice a bs.length c] w (RetBS w bs) := by
  cases a with
  | none =>
    have hn := fun w => Lib.run_eql_slice_nil (P := Try.prog) w 37 5 none bs.length c 0 0 Try.underlying37
    have HB := Lib.hid h
    clear h
    go_enter Try.func88, Try.ntmps88
    go_wp2_with fail
    go_ret
    have h := HB.out
    have q := h.rd.2.2.2.1 rfl
    have q2 := h.rd.2.1
    have : bs = [] := List.eq_nil_of_length_eq_zero (by omega)
    subst this
    exact ⟨_, rfl, Add.refl w, BS.nil w⟩
  | some ad =>
    have hn := fun w => Lib.run_eql_slice_nil (P := Try.prog) w 37 5 (some ad) bs.length c 0 0 Try.underlying37
    have HB := Lib.hid h
    clear h
    have s0 := Lib.hid ((St.init w).alloc (.cells #[] 5))
    go_enter Try.func88, Try.ntmps88
    go_wp2_with (at_builtin; go_must (refine wpl_append rfl _ _ rfl tB (s0.out.rowMk (n := 0) (cap := 0) (xs := []) (Nat.le_refl _) (Nat.zero_le _) (by simp) rfl) (some ad) bs.length c (bvs bs) rfl rfl (HB.out.st rfl s0.out).rd.2.2.2.2 (fun e => by cases e) (by simp) (bvs_one _) (by unfold maxLen; omega) (by omega) ?_); intro v2 w2 s2 hv2; have S2 := Lib.hid s2; clear s2 hv2 s0)
    go_ret
    exact ⟨_, rfl, S2.out.below, S2.out.bs⟩
end Go.Proofs.Ytmilfilmhkpjoaa.FrmW
