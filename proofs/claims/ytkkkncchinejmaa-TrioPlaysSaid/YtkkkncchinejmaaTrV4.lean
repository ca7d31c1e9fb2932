/- The document's trio, walked: Append. -/
import Derived.Test.YtkkkncchinejmaaTrV3
namespace Go.Proofs.Ytkkkncchinejmaa.TrV
open Go Go.RowKit Go.Proofs.Ytkkkncchinejmaa Go.Proofs.Ytkkkncchinejmaa.Sp Go.Proofs.Ytkkkncchinejmaa.Reg Go.Proofs.Ytkkkncchinejmaa.SlW Go.Proofs.Ytkkkncchinejmaa.Fus Go.Proofs.Ytkkkncchinejmaa.TrM Go.Proofs.Ytkkkncchinejmaa.TapW Go.Proofs.Ytkkkncchinejmaa.TapR Go.Proofs.Ytkkkncchinejmaa.TrW Go.Proofs.Ytkkkncchinejmaa.Str
/-- The live tapes from the k-th on. -/
def lvf (Ts : List Tp) (k : Nat) : List Nat := (List.range' k (3 - k)).filter fun i => !(Ts.getD i Tp.new).gone
theorem lvf_zero (Ts : List Tp) : lvf Ts 0 = lvi Ts := by
  unfold lvf lvi lvk
  rw [List.range_eq_range']
theorem lvf_step (Ts : List Tp) (k : Nat) (hk : k < 3) : lvf Ts k = if (Ts.getD k Tp.new).gone = false then k :: lvf Ts (k + 1) else lvf Ts (k + 1) := by
  unfold lvf
  rw [show 3 - k = (3 - (k + 1)) + 1 by omega, List.range'_succ, List.filter_cons]
  cases h : (Ts.getD k Tp.new).gone <;> simp
theorem lvf_three (Ts : List Tp) : lvf Ts 3 = [] := rfl
theorem lvf_same {Ts Ts' : List Tp} (h : ∀ i, (Ts'.getD i Tp.new).gone = (Ts.getD i Tp.new).gone) (k : Nat) : lvf Ts' k = lvf Ts k := by
  unfold lvf
  refine List.filter_congr fun i _ => ?_
  rw [h i]
section
variable {B : Nat} {w0 : World} {R : HP}
theorem rtap_calls (fb : Nat) (ps : List Nat) (Ts : List Tp) (i : Nat) (f : Fu) (bs : List UInt8) (hn : bs.length ≤ 4611686018427387904) (hl : f.left ≤ 9223372036854775807) (hok : (Ts.getD i Tp.new).ok) (h1 : i < ps.length) (h2 : i < Ts.length) (w : World)
    (s : St B w0 w (rtps (.pointer (some ⟨fb, 0, none⟩)) ps Ts * (rfz fb f * R))) :
    Calls Try.prog 53 #[pp (ps.getD i 0), str bs] w (RetS B w0 (rtps (.pointer (some ⟨fb, 0, none⟩)) ps (Ts.set i (tApp (some f) (Ts.getD i Tp.new) bs).2.2) * (rfz fb ((tApp (some f) (Ts.getD i Tp.new) bs).2.1.getD f) * R)) (.int .i64 (tApp (some f) (Ts.getD i Tp.new) bs).1)) :=
  (rappend_calls f _ hok bs _ fb w (R := rtps (.pointer (some ⟨fb, 0, none⟩)) (ps.eraseIdx i) (Ts.eraseIdx i) * R) hn hl ((rtps_out (get_p h1) (get_T h2) s).eq (by ac_rfl))).mono fun _ _ ⟨e, s⟩ => ⟨e, rtps_in (get_p h1) h2 (s.eq (by ac_rfl))⟩
theorem rtsy_calls (fb : Nat) (ps : List Nat) (Ts : List Tp) (i : Nat) (f : Fu) (h1 : i < ps.length) (h2 : i < Ts.length) (w : World) (s : St B w0 w (rtps (.pointer (some ⟨fb, 0, none⟩)) ps Ts * (rfz fb f * R))) :
    Calls Try.prog 54 #[pp (ps.getD i 0)] w (RetS B w0 (rtps (.pointer (some ⟨fb, 0, none⟩)) ps (Ts.set i (tSync (some f) (Ts.getD i Tp.new)).2) * (rfz fb f * R)) (.int .i64 (tSync (some f) (Ts.getD i Tp.new)).1)) :=
  (rsync_calls f _ _ fb w (R := rtps (.pointer (some ⟨fb, 0, none⟩)) (ps.eraseIdx i) (Ts.eraseIdx i) * R) ((rtps_out (get_p h1) (get_T h2) s).eq (by ac_rfl))).mono fun _ _ ⟨e, s⟩ => ⟨e, rtps_in (get_p h1) h2 (s.eq (by ac_rfl))⟩
end
end Go.Proofs.Ytkkkncchinejmaa.TrV
