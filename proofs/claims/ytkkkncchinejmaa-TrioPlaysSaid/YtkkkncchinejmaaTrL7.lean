/- TrioPlays: both trios beside each other. No condition. -/
import Derived.Test.YtkkkncchinejmaaTrV7
import Derived.Test.YtkkkncchinejmaaTrV8
import Derived.Test.YtkkkncchinejmaaTrK2
import Derived.Test.YtkkkncchinejmaaTrQ
set_option linter.unusedSimpArgs false
set_option linter.unusedVariables false
namespace Go.Proofs.Ytkkkncchinejmaa.TrV
open Go Go.RowKit Go.Proofs.Ytkkkncchinejmaa Go.Proofs.Ytkkkncchinejmaa.Sp Go.Proofs.Ytkkkncchinejmaa.Reg Go.Proofs.Ytkkkncchinejmaa.SlW Go.Proofs.Ytkkkncchinejmaa.Fus Go.Proofs.Ytkkkncchinejmaa.TrM Go.Proofs.Ytkkkncchinejmaa.TapW Go.Proofs.Ytkkkncchinejmaa.TapR Go.Proofs.Ytkkkncchinejmaa.TrW Go.Proofs.Ytkkkncchinejmaa.Str Go.Proofs.Ytkkkncchinejmaa.TrR Go.Proofs.Ytkkkncchinejmaa.TrL
/-! ### plain: what is kept -/
theorem apK_keep (b : List UInt8) : ∀ (L : List Nat) (F : Fu) (Ts : List Tp), Rok Ts F → (∀ i ∈ L, i < 3) → ∃ e F1 Ts1, apK (some F) Ts L b = (e, some F1, Ts1) ∧ Rok Ts1 F1
  | [], F, Ts, h, _ => ⟨0, F, Ts, rfl, h⟩
  | i :: L, F, Ts, h, hL => by
    have h1 := h.app i (hL i (by simp)) b
    have h2 := app_some F (Ts.getD i Tp.new) b
    obtain ⟨F1, hF1⟩ : ∃ F1, (tApp (some F) (Ts.getD i Tp.new) b).2.1 = some F1 := ⟨_, h2⟩
    unfold apK
    rw [hF1] at h1 ⊢
    split
    · exact apK_keep b L _ _ h1 fun j hj => hL j (by simp [hj])
    · exact ⟨_, _, _, rfl, h1⟩
theorem syK_keep (F : Fu) : ∀ (L : List Nat) (Ts : List Tp), Rok Ts F → (∀ i ∈ L, i < 3) → Rok (syK (some F) Ts L).2 F
  | [], Ts, h, _ => h
  | i :: L, Ts, h, hL => by
    have h1 := h.sync i (hL i (by simp))
    unfold syK
    split
    · exact syK_keep F L _ h1 fun j hj => hL j (by simp [hj])
    · exact h1
theorem wr_keep {F : Fu} {T : Tp} (hT : T.ok) (hF : F.left ≤ 9223372036854775807) (k : Nat) (b : List UInt8) : ∃ e F1 T1, tWrite (some F) T k b = (e, some F1, T1) ∧ T1.ok ∧ F1.left ≤ 9223372036854775807 := by
  have h1 := cut_ok hT (some F) k
  have h2 := cut_left hF T k
  have h3 := cut_some F T k
  unfold tWrite
  split
  · have g1 := app_ok h1 (some ((tCut (some F) T k).2.1.getD F)) (b.drop k)
    have g2 := app_left h2 (tCut (some F) T k).2.2 (b.drop k)
    have g3 := app_some ((tCut (some F) T k).2.1.getD F) (tCut (some F) T k).2.2 (b.drop k)
    rw [← h3] at g1 g2 g3
    generalize tApp (tCut (some F) T k).2.1 (tCut (some F) T k).2.2 (b.drop k) = W at *
    obtain ⟨e, F1, T1⟩ := W
    obtain ⟨F2, rfl⟩ : ∃ F2, F1 = some F2 := ⟨_, g3⟩
    split
    · exact ⟨_, _, _, rfl, sync_ok g1 _, g2⟩
    · exact ⟨_, _, _, rfl, g1, g2⟩
  · generalize tCut (some F) T k = W at *
    obtain ⟨e, F1, T1⟩ := W
    obtain ⟨F2, rfl⟩ : ∃ F2, F1 = some F2 := ⟨_, h3⟩
    exact ⟨_, _, _, rfl, h1, h2⟩
theorem opK_keep (b : List (List UInt8)) : ∀ (L : List Nat) (F : Fu) (Ts : List Tp), Rok Ts F → (∀ i ∈ L, i < 3) → ∃ e F1 Ts1, opK (some F) Ts L b = (e, some F1, Ts1) ∧ Rok Ts1 F1
  | [], F, Ts, h, _ => ⟨0, F, Ts, rfl, h⟩
  | i :: L, F, Ts, h, hL => by
    have hL2 : ∀ j ∈ L, j < 3 := fun j hj => hL j (by simp [hj])
    unfold opK
    split
    · exact opK_keep b L F Ts h hL2
    · obtain ⟨e, F1, T1, h1, h2, h3⟩ := wr_keep (h.ok i) h.left (jn (b.take (al (spl (Ts.getD i Tp.new).b) b))).length (jn b)
      have h4 := h.set i (hL i (by simp)) h2 h3
      rw [h1]
      simp only
      split
      · exact opK_keep b L _ _ h4 hL2
      · exact ⟨_, _, _, rfl, h4⟩
theorem lvi_lt (Ts : List Tp) : ∀ i ∈ lvi Ts, i < 3 := fun i h => (lvi_mem h).1
theorem trApp_keep {F : Fu} {Ts : List Tp} (h : Rok Ts F) (n : Nat) (r : List UInt8) : ∃ e F1 Ts1 n1, trApp (some F) Ts n r = (e, some F1, Ts1, n1) ∧ Rok Ts1 F1 ∧ n1 ≤ n + 1 := by
  unfold trApp
  split
  · exact ⟨_, _, _, _, rfl, h, by omega⟩
  · split
    · exact ⟨_, _, _, _, rfl, h, by omega⟩
    · split
      · exact ⟨_, _, _, _, rfl, h, by omega⟩
      · obtain ⟨e, F1, Ts1, h1, h2⟩ := apK_keep (jn1 r) (lvi Ts) F Ts h (lvi_lt Ts)
        rw [h1]
        have h3 := syK_keep F1 (lvi Ts) Ts1 h2 (lvi_lt Ts)
        simp only
        split
        · split
          · exact ⟨_, _, _, _, rfl, h3, by omega⟩
          · exact ⟨_, _, _, _, rfl, h3, by omega⟩
        · exact ⟨_, _, _, _, rfl, h2, by omega⟩
theorem trMend_keep {F : Fu} {Ts : List Tp} (h : Rok Ts F) (i : Int) : ∃ e F1 Ts1, trMend (some F) Ts i = (e, some F1, Ts1) ∧ Rok Ts1 F1 := by
  unfold trMend
  split
  · exact ⟨_, _, _, rfl, h⟩
  · rename_i hi
    have hi3 : i.toNat < 3 := by omega
    split
    · exact ⟨_, _, _, rfl, h⟩
    · rename_i k hk
      obtain ⟨e, F1, T1, h1, h2, h3⟩ := wr_keep (h.ok i.toNat) h.left 0 (Ts.getD k Tp.new).b
      rw [h1]
      exact ⟨_, _, _, rfl, h.set _ hi3 h2 h3⟩
theorem Rok.crash {Ts : List Tp} {F : Fu} (h : Rok Ts F) (k : Nat) (hk : k < 3) (c : Int) : Rok (Ts.set k (tCrash (Ts.getD k Tp.new) c)) F := by
  refine h.set k hk ⟨Nat.zero_le _, ?_⟩ h.left
  have := (h.ok k).2
  simp only [tCrash, List.length_take]
  omega
theorem Rok.fail {Ts : List Tp} {F : Fu} (h : Rok Ts F) (k : Nat) (hk : k < 3) : Rok (Ts.set k ⟨(Ts.getD k Tp.new).b, (Ts.getD k Tp.new).loose, true⟩) F := h.set k hk (h.ok k) h.left
theorem Rok.replace {Ts : List Tp} {F : Fu} (h : Rok Ts F) (k : Nat) (hk : k < 3) : Rok (Ts.set k Tp.new) F := h.set k hk ⟨Nat.le_refl _, Nat.zero_le _⟩ h.left
theorem Rok.fuse {Ts : List Tp} {F G : Fu} (h : Rok Ts F) (hG : G.left ≤ 9223372036854775807) : Rok Ts G := ⟨h.len, h.ok, hG⟩
theorem best_few {F : Fu} {Ts : List Tp} (h : Rok Ts F) : (best Ts).length ≤ 65536 ∧ (∀ r ∈ best Ts, okr r) := by
  obtain ⟨h1, h2⟩ := cnt_ok Ts (lvi Ts) (fun T hT => by
    obtain ⟨i, hi, rfl⟩ := List.getElem_of_mem hT
    have := (h.ok i).2
    rwa [show Ts.getD i Tp.new = Ts[i] by simp [List.getD, hi]] at this)
  exact ⟨Nat.le_trans (jn_len_le _) h2, h1⟩
/-! ### both -/
/-- The program's trio and the document's, each with its tapes and its Fuse. -/
def Htt (fb rfb tb wb p0 p1 p2 q0 q1 q2 n : Nat) (Ts : List Tp) (F : Fu) (n2 : Nat) (Ts2 : List Tp) (F2 : Fu) (R : HP) : HP :=
  trx tb (some ⟨fb, 0, none⟩) [p0, p1, p2] n Ts (some F) * Hr rfb wb q0 q1 q2 n2 Ts2 F2 R
section
variable {B : Nat} {w0 w : World} {R X : HP} {fb rfb tb wb p0 p1 p2 q0 q1 q2 n n2 : Nat} {Ts Ts2 : List Tp} {F F2 : Fu}
theorem ht_x (s : St B w0 w (X * Htt fb rfb tb wb p0 p1 p2 q0 q1 q2 n Ts F n2 Ts2 F2 R)) : St B w0 w (Htt fb rfb tb wb p0 p1 p2 q0 q1 q2 n Ts F n2 Ts2 F2 (X * R)) := s.eq (by unfold Htt Hr; ac_rfl)
theorem ht_y (s : St B w0 w (Htt fb rfb tb wb p0 p1 p2 q0 q1 q2 n Ts F n2 Ts2 F2 (X * R))) : St B w0 w (X * Htt fb rfb tb wb p0 p1 p2 q0 q1 q2 n Ts F n2 Ts2 F2 R) := s.eq (by unfold Htt Hr; ac_rfl)
theorem ht_r (s : St B w0 w (Htt fb rfb tb wb p0 p1 p2 q0 q1 q2 n Ts F n2 Ts2 F2 R)) : St B w0 w (Hr rfb wb q0 q1 q2 n2 Ts2 F2 (trx tb (some ⟨fb, 0, none⟩) [p0, p1, p2] n Ts (some F) * R)) := s.eq (by unfold Htt Hr; ac_rfl)
theorem ht_rb (s : St B w0 w (Hr rfb wb q0 q1 q2 n2 Ts2 F2 (trx tb (some ⟨fb, 0, none⟩) [p0, p1, p2] n Ts (some F) * R))) : St B w0 w (Htt fb rfb tb wb p0 p1 p2 q0 q1 q2 n Ts F n2 Ts2 F2 R) := s.eq (by unfold Htt Hr; ac_rfl)
theorem ht_t (s : St B w0 w (Htt fb rfb tb wb p0 p1 p2 q0 q1 q2 n Ts F n2 Ts2 F2 R)) : St B w0 w (tps (some ⟨fb, 0, none⟩) [p0, p1, p2] Ts * (fz (.pointer (some ⟨fb, 0, none⟩)) (some F) * (tro tb p0 p1 p2 n * Hr rfb wb q0 q1 q2 n2 Ts2 F2 R))) := s.eq (by unfold Htt; rw [trx_eq]; ac_rfl)
theorem ht_tb (s : St B w0 w (tps (some ⟨fb, 0, none⟩) [p0, p1, p2] Ts * (fz (.pointer (some ⟨fb, 0, none⟩)) (some F) * (tro tb p0 p1 p2 n * Hr rfb wb q0 q1 q2 n2 Ts2 F2 R)))) : St B w0 w (Htt fb rfb tb wb p0 p1 p2 q0 q1 q2 n Ts F n2 Ts2 F2 R) := s.eq (by unfold Htt; rw [trx_eq]; ac_rfl)
theorem ht_o (s : St B w0 w (Htt fb rfb tb wb p0 p1 p2 q0 q1 q2 n Ts F n2 Ts2 F2 R)) : St B w0 w (tro tb p0 p1 p2 n * (tps (some ⟨fb, 0, none⟩) [p0, p1, p2] Ts * (fz (.pointer (some ⟨fb, 0, none⟩)) (some F) * Hr rfb wb q0 q1 q2 n2 Ts2 F2 R))) := s.eq (by unfold Htt; rw [trx_eq]; ac_rfl)
theorem ht_ob (s : St B w0 w (tro tb p0 p1 p2 n * (tps (some ⟨fb, 0, none⟩) [p0, p1, p2] Ts * (fz (.pointer (some ⟨fb, 0, none⟩)) (some F) * Hr rfb wb q0 q1 q2 n2 Ts2 F2 R)))) : St B w0 w (Htt fb rfb tb wb p0 p1 p2 q0 q1 q2 n Ts F n2 Ts2 F2 R) := s.eq (by unfold Htt; rw [trx_eq]; ac_rfl)
theorem ht_f (s : St B w0 w (Htt fb rfb tb wb p0 p1 p2 q0 q1 q2 n Ts F n2 Ts2 F2 R)) : St B w0 w (fz (.pointer (some ⟨fb, 0, none⟩)) (some F) * (tps (some ⟨fb, 0, none⟩) [p0, p1, p2] Ts * (tro tb p0 p1 p2 n * Hr rfb wb q0 q1 q2 n2 Ts2 F2 R))) := s.eq (by unfold Htt; rw [trx_eq]; ac_rfl)
theorem ht_fb (s : St B w0 w (fz (.pointer (some ⟨fb, 0, none⟩)) (some F) * (tps (some ⟨fb, 0, none⟩) [p0, p1, p2] Ts * (tro tb p0 p1 p2 n * Hr rfb wb q0 q1 q2 n2 Ts2 F2 R)))) : St B w0 w (Htt fb rfb tb wb p0 p1 p2 q0 q1 q2 n Ts F n2 Ts2 F2 R) := s.eq (by unfold Htt; rw [trx_eq]; ac_rfl)
theorem ht_tapes (w : World) (s : St B w0 w (Htt fb rfb tb wb p0 p1 p2 q0 q1 q2 n Ts F n2 Ts2 F2 R)) : Calls Try.prog 19 #[pp tb] w (RetS B w0 (Htt fb rfb tb wb p0 p1 p2 q0 q1 q2 n Ts F n2 Ts2 F2 R) (.agg #[pp p0, pp p1, pp p2])) :=
  (tapes_calls tb p0 p1 p2 n w (ht_o s)).mono fun _ _ ⟨h1, h2⟩ => ⟨h1, ht_ob h2⟩
theorem ht_records (w : World) (s : St B w0 w (Htt fb rfb tb wb p0 p1 p2 q0 q1 q2 n Ts F n2 Ts2 F2 R)) : Calls Try.prog 28 #[pp tb] w (RetS B w0 (Htt fb rfb tb wb p0 p1 p2 q0 q1 q2 n Ts F n2 Ts2 F2 R) (.int .i64 n)) :=
  (records_calls tb p0 p1 p2 n w (ht_o s)).mono fun _ _ ⟨h1, h2⟩ => ⟨h1, ht_ob h2⟩
theorem ht_append (w : World) {r : List UInt8} {e1 : Int} {F1 : Fu} {Ts1 : List Tp} {n1 : Nat} {a : Option Addr} {c : Nat} (ht : trApp (some F) Ts n r = (e1, some F1, Ts1, n1)) (hT : Ts.length = 3) (hn : n ≤ 1000000) (hr : r.length ≤ 1000000) (hb : ∀ R, Reads B w0 R (.slice a r.length c) r)
    (s : St B w0 w (Htt fb rfb tb wb p0 p1 p2 q0 q1 q2 n Ts F n2 Ts2 F2 R)) : Calls Try.prog 18 #[pp tb, .slice a r.length c] w (RetS B w0 (Htt fb rfb tb wb p0 p1 p2 q0 q1 q2 n1 Ts1 F1 n2 Ts2 F2 R) (.int .i64 e1)) := by
  have q := tappend_calls (some F) Ts n r tb p0 p1 p2 (some ⟨fb, 0, none⟩) a c hT hn hr w (hb _) s
  rw [ht] at q
  exact q
theorem ht_rappend (w : World) {r : List UInt8} {e1 : Int} {F1 : Fu} {Ts1 : List Tp} {n1 : Nat} (ht : trApp (some F2) Ts2 n2 r = (e1, some F1, Ts1, n1)) (hT : Rok Ts2 F2) (hn : n2 ≤ 1000000) (hr : r.length ≤ 1000000)
    (s : St B w0 w (Htt fb rfb tb wb p0 p1 p2 q0 q1 q2 n Ts F n2 Ts2 F2 R)) : Calls Try.prog 32 #[pp wb, str r] w (RetS B w0 (Htt fb rfb tb wb p0 p1 p2 q0 q1 q2 n Ts F n1 Ts1 F1 R) (.int .i64 e1)) := by
  have q := rapp_calls rfb wb q0 q1 q2 n2 Ts2 F2 r hT hn hr w (ht_r s)
  rw [ht] at q
  exact q.mono fun _ _ ⟨h1, h2⟩ => ⟨h1, ht_rb h2⟩
theorem ht_mend (w : World) {i e1 : Int} {F1 : Fu} {Ts1 : List Tp} (ht : trMend (some F) Ts i = (e1, some F1, Ts1)) (hT : Ts.length = 3)
    (s : St B w0 w (Htt fb rfb tb wb p0 p1 p2 q0 q1 q2 n Ts F n2 Ts2 F2 R)) : Calls Try.prog 27 #[pp tb, .int .i64 i] w (RetS B w0 (Htt fb rfb tb wb p0 p1 p2 q0 q1 q2 n Ts1 F1 n2 Ts2 F2 R) (.int .i64 e1)) := by
  have q := mend_calls (some F) Ts n tb p0 p1 p2 (some ⟨fb, 0, none⟩) i hT w s
  rw [ht] at q
  exact q
theorem ht_rmend (w : World) {i e1 : Int} {F1 : Fu} {Ts1 : List Tp} (ht : trMend (some F2) Ts2 i = (e1, some F1, Ts1)) (hT : Rok Ts2 F2)
    (s : St B w0 w (Htt fb rfb tb wb p0 p1 p2 q0 q1 q2 n Ts F n2 Ts2 F2 R)) : Calls Try.prog 34 #[pp wb, .int .i64 i] w (RetS B w0 (Htt fb rfb tb wb p0 p1 p2 q0 q1 q2 n Ts F n2 Ts1 F1 R) (.int .i64 e1)) := by
  have q := rmend_calls rfb wb q0 q1 q2 n2 Ts2 F2 i hT w (ht_r s)
  rw [ht] at q
  exact q.mono fun _ _ ⟨h1, h2⟩ => ⟨h1, ht_rb h2⟩
theorem ht_fail (w : World) (k : Nat) (hk : k < 3) (hT : Ts.length = 3) (s : St B w0 w (Htt fb rfb tb wb p0 p1 p2 q0 q1 q2 n Ts F n2 Ts2 F2 R)) :
    Calls Try.prog 21 #[pp ([p0, p1, p2].getD k 0)] w (RetS B w0 (Htt fb rfb tb wb p0 p1 p2 q0 q1 q2 n (Ts.set k ⟨(Ts.getD k Tp.new).b, (Ts.getD k Tp.new).loose, true⟩) F n2 Ts2 F2 R) (.tuple #[])) :=
  (tfail_calls (some ⟨fb, 0, none⟩) [p0, p1, p2] Ts k (by simpa using hk) (by rw [hT]; exact hk) w (ht_t s)).mono fun _ _ ⟨h1, h2⟩ => ⟨h1, ht_tb h2⟩
theorem ht_crash (w : World) (k : Nat) (hk : k < 3) (hT : Ts.length = 3) (c : Int) (hc : c ≤ 9223372036854775807) (s : St B w0 w (Htt fb rfb tb wb p0 p1 p2 q0 q1 q2 n Ts F n2 Ts2 F2 R)) :
    Calls Try.prog 20 #[pp ([p0, p1, p2].getD k 0), .int .i64 c] w (RetS B w0 (Htt fb rfb tb wb p0 p1 p2 q0 q1 q2 n (Ts.set k (tCrash (Ts.getD k Tp.new) c)) F n2 Ts2 F2 R) (.tuple #[])) :=
  (tcrash_calls (some ⟨fb, 0, none⟩) [p0, p1, p2] Ts k c hc (by simpa using hk) (by rw [hT]; exact hk) w (ht_t s)).mono fun _ _ ⟨h1, h2⟩ => ⟨h1, ht_tb h2⟩
theorem ht_replace (w : World) (k : Nat) (hk : k < 3) (hT : Ts.length = 3) (s : St B w0 w (Htt fb rfb tb wb p0 p1 p2 q0 q1 q2 n Ts F n2 Ts2 F2 R)) :
    Calls Try.prog 26 #[pp ([p0, p1, p2].getD k 0)] w (RetS B w0 (Htt fb rfb tb wb p0 p1 p2 q0 q1 q2 n (Ts.set k Tp.new) F n2 Ts2 F2 R) (.tuple #[])) :=
  (replace_calls _ _ (some ⟨fb, 0, none⟩) w (tps_out (get_p (show k < [p0, p1, p2].length by simpa using hk)) (get_T (show k < Ts.length by rw [hT]; exact hk)) (ht_t s))).mono fun _ _ ⟨h1, h2⟩ => ⟨h1, ht_tb (tps_in (get_p (show k < [p0, p1, p2].length by simpa using hk)) (show k < Ts.length by rw [hT]; exact hk) h2)⟩
theorem ht_live (w : World) (k : Nat) (hk : k < 3) (hT : Ts.length = 3) (s : St B w0 w (Htt fb rfb tb wb p0 p1 p2 q0 q1 q2 n Ts F n2 Ts2 F2 R)) :
    Calls Try.prog 37 #[pp ([p0, p1, p2].getD k 0)] w (RetS B w0 (Htt fb rfb tb wb p0 p1 p2 q0 q1 q2 n Ts F n2 Ts2 F2 R) (.bool (!(Ts.getD k Tp.new).gone))) :=
  (live_calls _ _ _ w (tps_out (get_p (show k < [p0, p1, p2].length by simpa using hk)) (get_T (show k < Ts.length by rw [hT]; exact hk)) (ht_t s))).mono fun _ _ ⟨h1, h2⟩ => ⟨h1, ht_tb (tps_back (get_p (show k < [p0, p1, p2].length by simpa using hk)) (get_T (show k < Ts.length by rw [hT]; exact hk)) h2)⟩
theorem hr_rt (k : Nat) (hk : k < 3) (hT : Ts2.length = 3) (s : St B w0 w (Hr rfb wb q0 q1 q2 n2 Ts2 F2 R)) : St B w0 w (rtp ([q0, q1, q2].getD k 0) (.pointer (some ⟨rfb, 0, none⟩)) (Ts2.getD k Tp.new) * (rtps (.pointer (some ⟨rfb, 0, none⟩)) ([q0, q1, q2].eraseIdx k) (Ts2.eraseIdx k) * (rfz rfb F2 * (rtro wb q0 q1 q2 n2 * R)))) :=
  rtps_out (get_p (show k < [q0, q1, q2].length by simpa using hk)) (get_T (show k < Ts2.length by rw [hT]; exact hk)) (hr_t s)
theorem hr_ri (k : Nat) (hk : k < 3) (hT : Ts2.length = 3) {T : Tp} (s : St B w0 w (rtp ([q0, q1, q2].getD k 0) (.pointer (some ⟨rfb, 0, none⟩)) T * (rtps (.pointer (some ⟨rfb, 0, none⟩)) ([q0, q1, q2].eraseIdx k) (Ts2.eraseIdx k) * (rfz rfb F2 * (rtro wb q0 q1 q2 n2 * R))))) : St B w0 w (Hr rfb wb q0 q1 q2 n2 (Ts2.set k T) F2 R) :=
  hr_back (rtps_in (get_p (show k < [q0, q1, q2].length by simpa using hk)) (show k < Ts2.length by rw [hT]; exact hk) s)
theorem ht_rcrash (w : World) (k : Nat) (hk : k < 3) (hT : Rok Ts2 F2) (c : Int) (hc : c ≤ 9223372036854775807) (s : St B w0 w (Htt fb rfb tb wb p0 p1 p2 q0 q1 q2 n Ts F n2 Ts2 F2 R)) :
    Calls Try.prog 35 #[pp ([q0, q1, q2].getD k 0), .int .i64 c] w (RetS B w0 (Htt fb rfb tb wb p0 p1 p2 q0 q1 q2 n Ts F n2 (Ts2.set k (tCrash (Ts2.getD k Tp.new) c)) F2 R) (.tuple #[])) :=
  (rcrash_calls _ c _ _ w (hT.ok k) hc (hr_rt k hk hT.len (ht_r s))).mono fun _ _ ⟨h1, h2⟩ => ⟨h1, ht_rb (hr_ri k hk hT.len h2)⟩
theorem ht_rreplace (w : World) (k : Nat) (hk : k < 3) (hT : Ts2.length = 3) (s : St B w0 w (Htt fb rfb tb wb p0 p1 p2 q0 q1 q2 n Ts F n2 Ts2 F2 R)) :
    Calls Try.prog 33 #[pp ([q0, q1, q2].getD k 0)] w (RetS B w0 (Htt fb rfb tb wb p0 p1 p2 q0 q1 q2 n Ts F n2 (Ts2.set k Tp.new) F2 R) (.tuple #[])) :=
  (rreplace_calls _ _ _ w (hr_rt k hk hT (ht_r s))).mono fun _ _ ⟨h1, h2⟩ => ⟨h1, ht_rb (hr_ri k hk hT h2)⟩
theorem ht_rfail (k : Nat) (hk : k < 3) (hT : Ts2.length = 3) (s : St B w0 w (Htt fb rfb tb wb p0 p1 p2 q0 q1 q2 n Ts F n2 Ts2 F2 R)) :
    w.frozen? ⟨[q0, q1, q2].getD k 0, 2, none⟩ = false ∧ St B w0 (w.setCell ⟨[q0, q1, q2].getD k 0, 2, none⟩ (.bool false)) (Htt fb rfb tb wb p0 p1 p2 q0 q1 q2 n Ts F n2 (Ts2.set k ⟨(Ts2.getD k Tp.new).b, (Ts2.getD k Tp.new).loose, true⟩) F2 R) := by
  have q := rtp_cells (hr_rt k hk hT (ht_r s))
  refine ⟨q.free 2, ?_⟩
  have q2 := q.set 2 (.bool false)
  exact ht_rb (hr_ri k hk hT (T := ⟨(Ts2.getD k Tp.new).b, (Ts2.getD k Tp.new).loose, true⟩) q2)
theorem ht_rc (k : Nat) (hk : k < 3) (hT : Ts2.length = 3) (s : St B w0 w (Htt fb rfb tb wb p0 p1 p2 q0 q1 q2 n Ts F n2 Ts2 F2 R)) : w.cell? ⟨wb, k, none⟩ = some (pp ([q0, q1, q2].getD k 0)) ∧ w.cell? ⟨[q0, q1, q2].getD k 0, 0, none⟩ = some (str (Ts2.getD k Tp.new).b) ∧ w.cell? ⟨[q0, q1, q2].getD k 0, 2, none⟩ = some (.bool (!(Ts2.getD k Tp.new).gone)) ∧ w.cell? ⟨wb, 3, none⟩ = some (.int .i64 n2) :=
  ⟨hr_p (ht_r s) k hk, (hr_c hT (ht_r s) k hk).1, (hr_c hT (ht_r s) k hk).2, (hr_n (ht_r s)).1⟩
theorem ht_set (w : World) (k : Int) (hk : k ≤ 9223372036854775807) (s : St B w0 w (Htt fb rfb tb wb p0 p1 p2 q0 q1 q2 n Ts F n2 Ts2 F2 R)) :
    Calls Try.prog 17 #[.pointer (some ⟨fb, 0, none⟩), .int .i64 k] w (RetS B w0 (Htt fb rfb tb wb p0 p1 p2 q0 q1 q2 n Ts (Fu.new k) n2 Ts2 F2 R) (.tuple #[])) :=
  (set_calls F (.pointer (some ⟨fb, 0, none⟩)) k w hk (ht_f s)).mono fun _ _ ⟨h1, h2⟩ => ⟨h1, ht_fb h2⟩
theorem hr_f (s : St B w0 w (Hr rfb wb q0 q1 q2 n2 Ts2 F2 R)) : St B w0 w (rfz rfb F2 * (rtps (.pointer (some ⟨rfb, 0, none⟩)) [q0, q1, q2] Ts2 * (rtro wb q0 q1 q2 n2 * R))) := s.eq (by unfold Hr; ac_rfl)
theorem hr_fb (s : St B w0 w (rfz rfb F2 * (rtps (.pointer (some ⟨rfb, 0, none⟩)) [q0, q1, q2] Ts2 * (rtro wb q0 q1 q2 n2 * R)))) : St B w0 w (Hr rfb wb q0 q1 q2 n2 Ts2 F2 R) := s.eq (by unfold Hr; ac_rfl)
theorem ht_rfz (s : St B w0 w (Htt fb rfb tb wb p0 p1 p2 q0 q1 q2 n Ts F n2 Ts2 F2 R)) : w.cell? ⟨rfb, 0, none⟩ = some (.bool (!F2.bound)) ∧ w.cell? ⟨rfb, 1, none⟩ = some (.int .i64 F2.left) ∧ w.frozen? ⟨rfb, 0, none⟩ = false ∧ w.frozen? ⟨rfb, 1, none⟩ = false := by
  have q : St B w0 w (pts rfb (.cells #[.bool (!F2.bound), .int .i64 F2.left] 75 (0, 0)) * _) := hr_f (ht_r s)
  exact ⟨q.cell 0, q.cell 1, q.free 0, q.free 1⟩
theorem ht_rset {G : Fu} (s : St B w0 w (Htt fb rfb tb wb p0 p1 p2 q0 q1 q2 n Ts F n2 Ts2 F2 R)) : St B w0 ((w.setCell ⟨rfb, 0, none⟩ (.bool (!G.bound))).setCell ⟨rfb, 1, none⟩ (.int .i64 G.left)) (Htt fb rfb tb wb p0 p1 p2 q0 q1 q2 n Ts F n2 Ts2 G R) := by
  have q : St B w0 w (pts rfb (.cells #[.bool (!F2.bound), .int .i64 F2.left] 75 (0, 0)) * _) := hr_f (ht_r s)
  have q2 := (q.set 0 (.bool (!G.bound))).set 1 (.int .i64 G.left)
  exact ht_rb (hr_fb (F2 := G) q2)
theorem ht_bytes (w : World) (k : Nat) (hk : k < 3) (hT : Ts.length = 3) (s : St B w0 w (Htt fb rfb tb wb p0 p1 p2 q0 q1 q2 n Ts F n2 Ts2 F2 R)) :
    Calls Try.prog 38 #[pp ([p0, p1, p2].getD k 0)] w (RetRow B w0 (Htt fb rfb tb wb p0 p1 p2 q0 q1 q2 n Ts F n2 Ts2 F2 R) (tBytes (Ts.getD k Tp.new)) (tErr (Ts.getD k Tp.new))) := by
  refine (bytes_calls _ _ _ w (tps_out (get_p (show k < [p0, p1, p2].length by simpa using hk)) (get_T (show k < Ts.length by rw [hT]; exact hk)) (ht_t s))).mono ?_
  rintro e w' ⟨a, c, h1, h2⟩
  refine ⟨a, c, h1, ?_⟩
  have h3 := h2.eq (sep_left_comm _ _ _)
  have h4 := ht_tb ((tps_back (get_p (show k < [p0, p1, p2].length by simpa using hk)) (get_T (show k < Ts.length by rw [hT]; exact hk)) (h3.eq (Q := tp (pp ([p0, p1, p2].getD k 0)) (.pointer (some ⟨fb, 0, none⟩)) (Ts.getD k Tp.new) * (tps (some ⟨fb, 0, none⟩) ([p0, p1, p2].eraseIdx k) (Ts.eraseIdx k) * (row 5 1 (.slice a (tBytes (Ts.getD k Tp.new)).length c) (tBytes (Ts.getD k Tp.new)).length (bvs (tBytes (Ts.getD k Tp.new))) * (fz (.pointer (some ⟨fb, 0, none⟩)) (some F) * (tro tb p0 p1 p2 n * Hr rfb wb q0 q1 q2 n2 Ts2 F2 R))))) (by ac_rfl))).eq (Q := tps (some ⟨fb, 0, none⟩) [p0, p1, p2] Ts * (fz (.pointer (some ⟨fb, 0, none⟩)) (some F) * (tro tb p0 p1 p2 n * Hr rfb wb q0 q1 q2 n2 Ts2 F2 (row 5 1 (.slice a (tBytes (Ts.getD k Tp.new)).length c) (tBytes (Ts.getD k Tp.new)).length (bvs (tBytes (Ts.getD k Tp.new))) * R)))) (by unfold Hr; ac_rfl))
  exact ht_y h4
/-! ### opened -/
theorem ht_open_no (w : World) {e1 : Int} {F1 : Fu} {Ts1 : List Tp} (hT : Ts.length = 3) (hc : (lvi Ts).length < 2 ∧ e1 = 8 ∧ Ts1 = Ts ∧ F1 = F ∨ ¬ (lvi Ts).length < 2 ∧ opK (some F) Ts (lvi Ts) (best Ts) = (e1, some F1, Ts1) ∧ e1 ≠ 0)
    (s : St B w0 w (Htt fb rfb tb wb p0 p1 p2 q0 q1 q2 n Ts F n2 Ts2 F2 R)) :
    Calls Try.prog 22 #[.agg #[pp p0, pp p1, pp p2]] w fun e w' => e = .returned (.tuple #[.pointer none, .slice none 0 0, .int .i64 e1]) ∧ St B w0 w' (Htt fb rfb tb wb p0 p1 p2 q0 q1 q2 n Ts1 F1 n2 Ts2 F2 R) := by
  refine (open_calls (some F) Ts p0 p1 p2 (some ⟨fb, 0, none⟩) hT w (ht_t s)).mono ?_
  intro e w' h
  unfold OpP at h
  rcases hc with ⟨h1, rfl, rfl, rfl⟩ | ⟨h1, h2, h3⟩
  · rw [if_pos h1] at h
    exact ⟨h.1, ht_tb h.2⟩
  · rw [if_neg h1, h2, if_neg h3] at h
    exact ⟨h.1, ht_tb h.2⟩
theorem ht_ropen_no (w : World) {e1 : Int} {F1 : Fu} {Ts1 : List Tp} (hT : Rok Ts2 F2) (hc : (lvi Ts2).length < 2 ∧ e1 = 8 ∧ Ts1 = Ts2 ∧ F1 = F2 ∨ ¬ (lvi Ts2).length < 2 ∧ opK (some F2) Ts2 (lvi Ts2) (best Ts2) = (e1, some F1, Ts1) ∧ e1 ≠ 0)
    (s : St B w0 w (Htt fb rfb tb wb p0 p1 p2 q0 q1 q2 n Ts F n2 Ts2 F2 R)) :
    Calls Try.prog 36 #[.agg #[pp q0, pp q1, pp q2]] w fun e w' => e = .returned (.tuple #[.pointer none, .slice none 0 0, .int .i64 e1]) ∧ St B w0 w' (Htt fb rfb tb wb p0 p1 p2 q0 q1 q2 n Ts F n2 Ts1 F1 R) := by
  refine (ropen_calls rfb q0 q1 q2 Ts2 F2 hT w (R := rtro wb q0 q1 q2 n2 * (trx tb (some ⟨fb, 0, none⟩) [p0, p1, p2] n Ts (some F) * R)) ((ht_r s).eq (by unfold Hr; ac_rfl))).mono ?_
  intro e w' h
  unfold ROpP at h
  rcases hc with ⟨h1, rfl, rfl, rfl⟩ | ⟨h1, h2, h3⟩
  · rw [if_pos h1] at h
    exact ⟨h.1, ht_rb (h.2.eq (by unfold Hr; ac_rfl))⟩
  · rw [if_neg h1, h2, if_neg h3] at h
    exact ⟨h.1, ht_rb (h.2.eq (by unfold Hr; show rtps _ _ Ts1 * (rfz rfb F1 * _) = _; ac_rfl))⟩
theorem ht_open_yes (w : World) {F1 : Fu} {Ts1 : List Tp} (hT : Ts.length = 3) (h1 : ¬ (lvi Ts).length < 2) (h2 : opK (some F) Ts (lvi Ts) (best Ts) = (0, some F1, Ts1))
    (s : St B w0 w (Htt fb rfb tb wb p0 p1 p2 q0 q1 q2 n Ts F n2 Ts2 F2 R)) :
    Calls Try.prog 22 #[.agg #[pp p0, pp p1, pp p2]] w fun e w' => ∃ X b v vs, e = .returned (.tuple #[pp b, v, .int .i64 0]) ∧ BRd B w0 X v vs (best Ts) ∧ St B w0 w' (Htt fb rfb b wb p0 p1 p2 q0 q1 q2 (best Ts).length Ts1 F1 n2 Ts2 F2 (X * R)) := by
  refine (open_calls (some F) Ts p0 p1 p2 (some ⟨fb, 0, none⟩) hT w (ht_t s)).mono ?_
  intro e w' h
  unfold OpP at h
  rw [if_neg h1, h2, if_pos rfl] at h
  obtain ⟨X, b, v, vs, h3, h4, h5⟩ := h
  refine ⟨X, b, v, vs, h3, h4, ?_⟩
  have h6 : St B w0 w' (tro tb p0 p1 p2 n * (Htt fb rfb b wb p0 p1 p2 q0 q1 q2 (best Ts).length Ts1 F1 n2 Ts2 F2 (X * R))) := h5.eq (by unfold Htt Hr; show X * (trx b _ _ _ Ts1 (some F1) * _) = _; ac_rfl)
  exact h6.right
theorem ht_ropen_yes (w : World) {F1 : Fu} {Ts1 : List Tp} (hT : Rok Ts2 F2) (h1 : ¬ (lvi Ts2).length < 2) (h2 : opK (some F2) Ts2 (lvi Ts2) (best Ts2) = (0, some F1, Ts1))
    (s : St B w0 w (Htt fb rfb tb wb p0 p1 p2 q0 q1 q2 n Ts F n2 Ts2 F2 R)) :
    Calls Try.prog 36 #[.agg #[pp q0, pp q1, pp q2]] w fun e w' => ∃ X b v, e = .returned (.tuple #[pp b, v, .int .i64 0]) ∧ SRd B w0 X v (best Ts2) ∧ St B w0 w' (Htt fb rfb tb b p0 p1 p2 q0 q1 q2 n Ts F (best Ts2).length Ts1 F1 (X * R)) := by
  refine (ropen_calls rfb q0 q1 q2 Ts2 F2 hT w (R := rtro wb q0 q1 q2 n2 * (trx tb (some ⟨fb, 0, none⟩) [p0, p1, p2] n Ts (some F) * R)) ((ht_r s).eq (by unfold Hr; ac_rfl))).mono ?_
  intro e w' h
  unfold ROpP at h
  rw [if_neg h1, h2, if_pos rfl] at h
  obtain ⟨X, b, v, h3, h4, h5⟩ := h
  refine ⟨X, b, v, h3, h4, ?_⟩
  have h6 : St B w0 w' (rtro wb q0 q1 q2 n2 * (Htt fb rfb tb b p0 p1 p2 q0 q1 q2 n Ts F (best Ts2).length Ts1 F1 (X * R))) := h5.eq (by unfold Htt Hr; show rtro b _ _ _ _ * (rtps _ _ Ts1 * (rfz rfb F1 * _)) = _; ac_rfl)
  exact h6.right
end
end Go.Proofs.Ytkkkncchinejmaa.TrV
