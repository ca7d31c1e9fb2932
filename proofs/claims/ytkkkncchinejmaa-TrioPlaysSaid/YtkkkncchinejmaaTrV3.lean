/- The document's trio, walked: live. -/
import Derived.Test.YtkkkncchinejmaaTrV2
namespace Go.Proofs.Ytkkkncchinejmaa.TrV
open Go Go.RowKit Go.Proofs.Ytkkkncchinejmaa Go.Proofs.Ytkkkncchinejmaa.Sp Go.Proofs.Ytkkkncchinejmaa.Reg Go.Proofs.Ytkkkncchinejmaa.SlW Go.Proofs.Ytkkkncchinejmaa.Fus Go.Proofs.Ytkkkncchinejmaa.TrM Go.Proofs.Ytkkkncchinejmaa.TapW Go.Proofs.Ytkkkncchinejmaa.TapR Go.Proofs.Ytkkkncchinejmaa.TrW Go.Proofs.Ytkkkncchinejmaa.Str
/-- The document's tapes, one beside the other. -/
def rtps (fv : Value) : List Nat → List Tp → HP
  | p :: ps, T :: Ts => rtp p fv T * rtps fv ps Ts
  | _, _ => emp
theorem rtps_at (fv : Value) : ∀ (ps : List Nat) (Ts : List Tp) (i p : Nat) (T : Tp), ps[i]? = some p → Ts[i]? = some T → rtps fv ps Ts = rtp p fv T * rtps fv (ps.eraseIdx i) (Ts.eraseIdx i)
  | [], _, i, p, T, h, _ => by simp at h
  | _ :: _, [], i, p, T, _, h => by simp at h
  | q :: ps, U :: Ts, 0, p, T, h1, h2 => by simp at h1 h2; subst h1; subst h2; rfl
  | q :: ps, U :: Ts, i + 1, p, T, h1, h2 => by
    show rtp q fv U * rtps fv ps Ts = _
    rw [rtps_at fv ps Ts i p T (by simpa using h1) (by simpa using h2)]
    show rtp q fv U * (rtp p fv T * _) = rtp p fv T * (rtp q fv U * _)
    exact sep_left_comm _ _ _
theorem rtps_set (fv : Value) (ps : List Nat) (Ts : List Tp) (i p : Nat) (T : Tp) (h1 : ps[i]? = some p) (h2 : i < Ts.length) : rtps fv ps (Ts.set i T) = rtp p fv T * rtps fv (ps.eraseIdx i) (Ts.eraseIdx i) := by
  rw [rtps_at fv ps (Ts.set i T) i p T h1 (by rw [List.getElem?_set_self h2]), List.eraseIdx_set_eq]
section
variable {B : Nat} {w0 w : World} {R : HP} {fv : Value} {ps : List Nat} {Ts : List Tp} {i p : Nat} {T : Tp}
theorem rtps_out (h1 : ps[i]? = some p) (h2 : Ts[i]? = some T) (s : St B w0 w (rtps fv ps Ts * R)) : St B w0 w (rtp p fv T * (rtps fv (ps.eraseIdx i) (Ts.eraseIdx i) * R)) := by
  rw [rtps_at fv ps Ts i p T h1 h2] at s
  exact s.eq (sep_assoc _ _ _)
theorem rtps_in (h1 : ps[i]? = some p) (h2 : i < Ts.length) (s : St B w0 w (rtp p fv T * (rtps fv (ps.eraseIdx i) (Ts.eraseIdx i) * R))) : St B w0 w (rtps fv ps (Ts.set i T) * R) := by
  rw [rtps_set fv ps Ts i p T h1 h2]
  exact s.eq (sep_assoc _ _ _).symm
end
/-- The document's trio. -/
def rtro (b p0 p1 p2 n : Nat) : HP := pts b (.cells #[pp p0, pp p1, pp p2, .int .i64 n] 64 (0, 0))
section
variable {B : Nat} {w0 : World} {R : HP}
set_option maxRecDepth 100000 in
set_option maxHeartbeats 4000000 in
theorem rlive_calls (fv : Value) (b p0 p1 p2 n : Nat) (Ts : List Tp) (hT : Ts.length = 3) (w : World) (s : St B w0 w (rtro b p0 p1 p2 n * (rtps fv [p0, p1, p2] Ts * R))) :
    Calls Try.prog 52 #[pp b] w (RetS B w0 (rtro b p0 p1 p2 n * (rtps fv [p0, p1, p2] Ts * R)) (.int .i64 ((lvi Ts).length : Nat))) := by
  have S := Lib.hid s
  clear s
  go_enter Try.func52, Try.ntmps52
  go_wp2_with fail
  go_loopw [3, 4] (fun v3 i wr => ∃ k : Nat, k ≤ 3 ∧ v3 = .int .i64 ((lvk Ts k).length : Nat) ∧ i = .int .i64 k ∧ St B w0 wr (rtro b p0 p1 p2 n * (rtps fv [p0, p1, p2] Ts * R))) (fun _ i _ => 3 - (intOf i).toNat)
  case atStart => exact ⟨0, Nat.zero_le _, rfl, rfl, S.out⟩
  case round =>
    obtain ⟨k, hk, rfl, rfl, s1⟩ := hrel
    clear S
    by_cases hlt : k < 3
    · have hkI : (k : Int) < 3 := by omega
      have c1 : wr.cell? ⟨b, k, none⟩ = some (pp ([p0, p1, p2].getD k 0)) := by
        obtain rfl | rfl | rfl : k = 0 ∨ k = 1 ∨ k = 2 := by omega
        · exact St.cell s1 0
        · exact St.cell s1 1
        · exact St.cell s1 2
      have c2 : wr.cell? ⟨[p0, p1, p2].getD k 0, 2, none⟩ = some (.bool (!(Ts.getD k Tp.new).gone)) :=
        St.cell (rtps_out (get_p (show k < [p0, p1, p2].length by simpa using hlt)) (get_T (show k < Ts.length by omega)) (s1.eq (Q := rtps fv [p0, p1, p2] Ts * (rtro b p0 p1 p2 n * R)) (by ac_rfl))) 2
      have hsu := lvk_succ Ts k
      have hle := lvk_len Ts k
      generalize [p0, p1, p2].getD k 0 = pk at *
      generalize lvk Ts k = lk at *
      have S1 := Lib.hid s1
      clear s1
      cases hg : (Ts.getD k Tp.new).gone with
      | true =>
        rw [hg] at c2 hsu
        rw [if_neg (by simp)] at hsu
        have Hsu := Lib.hid hsu
        clear hsu
        clear hg
        go_wp2_with fail
        go_roundw
        case rel => exact ⟨k + 1, by omega, by rw [Hsu.out], by go_num, S1.out⟩
        case measure => simp [intOf]; omega
      | false =>
        rw [hg] at c2 hsu
        rw [if_pos rfl] at hsu
        have hsu2 := congrArg List.length hsu
        rw [List.length_append] at hsu2
        have Hsu2 := Lib.hid hsu2
        clear hsu2
        clear hg hsu
        go_wp2_with fail
        go_roundw
        case rel => exact ⟨k + 1, by omega, by rw [Hsu2.out]; go_num, by go_num, S1.out⟩
        case measure => simp [intOf]; omega
    · obtain rfl : k = 3 := by omega
      have S1 := Lib.hid s1
      clear s1
      go_wp2_with fail
      go_ret
      exact ⟨rfl, S1.out⟩
end
end Go.Proofs.Ytkkkncchinejmaa.TrV
