/- mat's Invert, walked. -/
import Derived.Test.YtjnfhppjkadlpaaMtW5
import Derived.Test.YtjnfhppjkadlpaaRey
namespace Go.Proofs.Ytjnfhppjkadlpaa.Mt
open Go Go.RowKit Go.Proofs.Ytjnfhppjkadlpaa Go.Proofs.Ytjnfhppjkadlpaa.Sp Go.Proofs.Ytjnfhppjkadlpaa.Reg Go.Proofs.Ytjnfhppjkadlpaa.Rd Go.Proofs.Ytjnfhppjkadlpaa.Gf
/-- The first row from c on whose cell is no nought. -/
def pvf (A : Mx) (c : Nat) : Nat → Nat → Nat
  | 0, p => p
  | m + 1, p => if A p c = 0 then pvf A c m (p + 1) else p
def pv (A : Mx) (n c : Nat) : Nat := pvf A c (n - c) c
theorem pvf_eq (A : Mx) (c : Nat) : ∀ (m p r : Nat), p ≤ r → r ≤ p + m → (∀ q, p ≤ q → q < r → A q c = 0) → (r < p + m → A r c ≠ 0) → pvf A c m p = r
  | 0, p, r, h1, h2, _, _ => by show p = r; omega
  | m + 1, p, r, h1, h2, h3, h4 => by
    show (if A p c = 0 then _ else _) = r
    by_cases e : p = r
    · subst e
      rw [if_neg (h4 (by omega))]
    · rw [if_pos (h3 p (Nat.le_refl _) (by omega))]
      exact pvf_eq A c m (p + 1) r (by omega) (by omega) (fun q hq => h3 q (by omega)) (fun h => h4 (by omega))
theorem pv_eq {A : Mx} {n c r : Nat} (h1 : c ≤ r) (h2 : r ≤ n) (h3 : ∀ q, c ≤ q → q < r → A q c = 0) (h4 : r < n → A r c ≠ 0) : pv A n c = r :=
  pvf_eq A c (n - c) c r h1 (by omega) h3 (fun h => h4 (by omega))
theorem pvf_spec (A : Mx) (c : Nat) : ∀ (m p : Nat), p ≤ pvf A c m p ∧ pvf A c m p ≤ p + m ∧ (∀ q, p ≤ q → q < pvf A c m p → A q c = 0) ∧ (pvf A c m p < p + m → A (pvf A c m p) c ≠ 0)
  | 0, p => ⟨Nat.le_refl _, Nat.le_refl _, fun q h1 h2 => absurd h2 (by show ¬ q < p; omega), fun h => absurd h (by show ¬ p < p + 0; omega)⟩
  | m + 1, p => by
    by_cases h : A p c = 0
    · rw [show pvf A c (m + 1) p = pvf A c m (p + 1) from if_pos h]
      obtain ⟨h1, h2, h3, h4⟩ := pvf_spec A c m (p + 1)
      refine ⟨by omega, by omega, fun q q1 q2 => ?_, fun hh => h4 (by omega)⟩
      by_cases e : q = p
      · rw [e]; exact h
      · exact h3 q (by omega) q2
    · rw [show pvf A c (m + 1) p = p from if_neg h]
      exact ⟨Nat.le_refl _, by omega, fun q h1 h2 => absurd h2 (by omega), fun _ => h⟩
/-- All other rows cleared, the first so many. -/
def elm (A D : Mx) (c k : Nat) : Mx := fun i j => if i < k ∧ i ≠ c then A i j ^^^ gmul (A c j) (D i c) else A i j
theorem elm_zero (A D : Mx) (c : Nat) : elm A D c 0 = A := by funext i j; exact if_neg (by omega)
theorem elm_at (D : Mx) (c i : Nat) : elm D D c i i c = D i c := if_neg (by omega)
theorem elm_step (A D : Mx) (c i : Nat) (h : i ≠ c) : rad (elm A D c i) c i (D i c) = elm A D c (i + 1) := by
  funext a b
  unfold rad elm
  by_cases e : a = i
  · subst e
    rw [if_pos rfl, if_neg (by omega), if_neg (by omega), if_pos ⟨by omega, h⟩]
  · rw [if_neg e]
    by_cases e2 : a < i ∧ a ≠ c
    · rw [if_pos e2, if_pos ⟨by omega, e2.2⟩]
    · rw [if_neg e2, if_neg (by omega)]
theorem elm_skip (A D : Mx) (c : Nat) : elm A D c c = elm A D c (c + 1) := by
  funext a b
  unfold elm
  by_cases e : a < c ∧ a ≠ c
  · rw [if_pos e, if_pos ⟨by omega, e.2⟩]
  · rw [if_neg e, if_neg (by omega)]
/-- Behind so many columns. -/
def gj (n : Nat) (f : Mx) : Nat → Option (Mx × Mx)
  | 0 => some (f, unit)
  | k + 1 => (gj n f k).bind fun x =>
    let p := pv x.1 n k
    if p = n then none
    else
      let A2 := rsc (rsw x.1 p k) k (ginv (x.1 p k))
      some (elm A2 A2 k n, elm (rsc (rsw x.2 p k) k (ginv (x.1 p k))) A2 k n)
theorem gj_none {n : Nat} {f : Mx} {k : Nat} (h : gj n f k = none) : ∀ m, gj n f (k + m) = none
  | 0 => h
  | m + 1 => by show (gj n f (k + m)).bind _ = none; rw [gj_none h m]; rfl
theorem gj_sing {n : Nat} {f A Bm : Mx} {k : Nat} (h : gj n f k = some (A, Bm)) (hp : pv A n k = n) : gj n f (k + 1) = none := by
  show (gj n f k).bind _ = none
  rw [h]
  show (if pv A n k = n then none else _) = none
  rw [if_pos hp]
theorem gj_next {n : Nat} {f A Bm : Mx} {k p : Nat} (h : gj n f k = some (A, Bm)) (hp : pv A n k = p) (hn : p ≠ n) :
    gj n f (k + 1) = some (elm (rsc (rsw A p k) k (ginv (A p k))) (rsc (rsw A p k) k (ginv (A p k))) k n, elm (rsc (rsw Bm p k) k (ginv (A p k))) (rsc (rsw A p k) k (ginv (A p k))) k n) := by
  subst hp
  show (gj n f k).bind _ = _
  rw [h]
  show (if pv A n k = n then none else _) = _
  rw [if_neg hn]
/-- What Invert hands back. -/
def InvP (B : Nat) (w0 : World) (fb n : Nat) (f : Mx) (Y : HP) (e : Ending) (w' : World) : Prop := match gj n f n with
  | some x => ∃ b, e = .returned (.tuple #[.pointer (some ⟨b, 0, none⟩), .int .i64 0]) ∧ St B w0 w' (mt b fb n n x.2 * Y)
  | none => e = .returned (.tuple #[.pointer none, .int .i64 2]) ∧ St B w0 w' Y
theorem InvP.some {B : Nat} {w0 : World} {fb n : Nat} {f A Bm : Mx} {Y : HP} {w' : World} {b : Nat} (h : gj n f n = some (A, Bm)) (s : St B w0 w' (mt b fb n n Bm * Y)) : InvP B w0 fb n f Y (.returned (.tuple #[.pointer (some ⟨b, 0, none⟩), .int .i64 0])) w' := by
  unfold InvP; rw [h]; exact ⟨b, rfl, s⟩
theorem InvP.none {B : Nat} {w0 : World} {fb n : Nat} {f : Mx} {Y : HP} {w' : World} (h : gj n f n = none) (s : St B w0 w' Y) : InvP B w0 fb n f Y (.returned (.tuple #[.pointer none, .int .i64 2])) w' := by
  unfold InvP; rw [h]; exact ⟨rfl, s⟩
section
variable {B : Nat} {w0 : World} {R : HP}
set_option maxRecDepth 100000 in
set_option maxHeartbeats 4000000 in
theorem inv_bad (b0 g0 k0 fb r c : Nat) (f : Mx) (hne : r ≠ c) (w : World) (s : St B w0 w (mo b0 g0 k0 fb r c f * R)) :
    Calls Try.prog 72 #[.pointer (some ⟨b0, 0, none⟩)] w (RetG B w0 (mo b0 g0 k0 fb r c f * R) (.tuple #[.pointer none, .int .i64 1])) := by
  have hn : ((r : Int) != (c : Int)) = true := by rw [bne_iff_ne]; omega
  clear hne
  have S := Lib.hid s
  clear s
  go_enter Try.func72, Try.ntmps72
  go_wp2_with fail
  refine wp_region_rx (fun _ w' => St B w0 w' (mo b0 g0 k0 fb r c f * R)) [] mixed (by kernel_rfl) (by kernel_rfl) S.out.drew ?_
  refine RXl.exact (.pointer (some ⟨b0, 0, none⟩)) rfl rfl rfl rfl rfl (fun _ _ _ _ _ => rfl) ?_
  refine RXl.exact (.pointer (some ⟨b0, 0, none⟩)) rfl rfl rfl rfl rfl (fun j τ w' hj hJ => by simp [rho, upd, Spec.val, execOp, go_sem]) ?_
  refine RXl.exact (.pointer (some ⟨b0, 1, none⟩)) rfl rfl rfl rfl rfl (fun j τ w' hj hJ => by simp [rho, upd, Spec.val, execOp, go_sem]) ?_
  refine RXl.exact (.int .i64 (r : Int)) rfl rfl rfl rfl rfl (fun j τ w' hj hJ => by have c := (mo_cells hJ).2.1; simp [rho, upd, Spec.val, execOp, go_sem, c]) ?_
  refine RXl.exact (.pointer (some ⟨b0, 0, none⟩)) rfl rfl rfl rfl rfl (fun _ _ _ _ _ => rfl) ?_
  refine RXl.exact (.pointer (some ⟨b0, 0, none⟩)) rfl rfl rfl rfl rfl (fun j τ w' hj hJ => by simp [rho, upd, Spec.val, execOp, go_sem]) ?_
  refine RXl.exact (.pointer (some ⟨b0, 2, none⟩)) rfl rfl rfl rfl rfl (fun j τ w' hj hJ => by simp [rho, upd, Spec.val, execOp, go_sem]) ?_
  refine RXl.exact (.int .i64 (c : Int)) rfl rfl rfl rfl rfl (fun j τ w' hj hJ => by have c := (mo_cells hJ).2.2.1; simp [rho, upd, Spec.val, execOp, go_sem, c]) ?_
  refine RXl.exact (.bool true) rfl rfl rfl rfl rfl (fun j τ w' hj hJ => by simp only [rho, upd, Spec.val, execOp]; simp [go_sem]; simpa using hn) ?_
  refine RXl.nilx _ (Agr.upd _ _ (Agr.upd _ _ (Agr.upd _ _ (Agr.upd _ _ (Agr.upd _ _ (Agr.upd _ _ (Agr.upd _ _ (Agr.upd _ _ (Agr.upd _ _ (Agr.base _)))))))))) fun w8 hJ => ?_
  obtain ⟨_, hJ⟩ := hJ
  simp only [Act.put, List.setIfInBounds_toArray, List.set_cons_succ, List.set_cons_zero]
  have S8 := Lib.hid (show St B w0 w8 (mo b0 g0 k0 fb r c f * R) from hJ)
  clear hJ S hn
  go_wp2_with fail
  go_ret2
  exact ⟨rfl, S8.out⟩
/-- The copy's struct, as it is made. -/
def LF (n fb : Nat) (k : Nat) (a : Nat × Nat × Nat) : Value := match k with
  | 0 => .slice (some ⟨a.1, 0, none⟩) (n * n) a.2.1
  | 1 => .agg #[.pointer (some ⟨fb, 0, none⟩), .int .i64 (n : Int), .int .i64 (n : Int), .slice (some ⟨a.1, 0, none⟩) (n * n) a.2.1]
  | _ => .pointer (some ⟨a.2.2, 0, none⟩)
def LH (n fb : Nat) (f : Mx) (Y : HP) (k : Nat) (a : Nat × Nat × Nat) : HP := match k with
  | 0 => row 5 1 (.slice (some ⟨a.1, 0, none⟩) (n * n) a.2.1) (n * n) (bvs (cl n n f)) * Y
  | 1 => row 5 1 (.slice (some ⟨a.1, 0, none⟩) (n * n) a.2.1) (n * n) (bvs (cl n n f)) * Y
  | _ => mo a.2.2 a.1 a.2.1 fb n n f * Y
theorem LH_y {n fb : Nat} {f : Mx} {Y : HP} (j : Nat) (a : Nat × Nat × Nat) : ∃ Z, LH n fb f Y j a = Y * Z := by
  match j with
  | 0 => exact ⟨_, sep_comm _ _⟩
  | 1 => exact ⟨_, sep_comm _ _⟩
  | _ + 2 => exact ⟨_, sep_comm _ _⟩
/-- The other one's call. -/
def UF (k : Nat) (b : Nat × Nat × Nat) : Value := match k with
  | 0 => .tuple #[.pointer (some ⟨b.1, 0, none⟩), .int .i64 0]
  | 1 => .tuple #[.pointer (some ⟨b.1, 0, none⟩), .int .i64 0]
  | _ => .pointer (some ⟨b.1, 0, none⟩)
set_option maxRecDepth 100000 in
set_option maxHeartbeats 16000000 in
theorem inv_calls (b0 g0 k0 fb n : Nat) (f : Mx) (hn : 1 ≤ n ∧ n ≤ 32) (w : World) (s : St B w0 w (fx fb * (mo b0 g0 k0 fb n n f * R))) :
    Calls Try.prog 72 #[.pointer (some ⟨b0, 0, none⟩)] w (InvP B w0 fb n f (fx fb * (mo b0 g0 k0 fb n n f * R))) := by
  have hnn : n * n ≤ 32 * 32 := Nat.mul_le_mul hn.2 hn.2
  have S := Lib.hid s
  clear s
  go_enter Try.func72, Try.ntmps72
  go_wp2_with fail
  refine wp_region_rx (fun _ w' => St B w0 w' (fx fb * (mo b0 g0 k0 fb n n f * R))) [] mixed (by kernel_rfl) (by kernel_rfl) S.out.drew ?_
  refine RXl.exact (.pointer (some ⟨b0, 0, none⟩)) rfl rfl rfl rfl rfl (fun _ _ _ _ _ => rfl) ?_
  refine RXl.exact (.pointer (some ⟨b0, 0, none⟩)) rfl rfl rfl rfl rfl (fun j τ w' hj hJ => by simp [rho, upd, Spec.val, execOp, go_sem]) ?_
  refine RXl.exact (.pointer (some ⟨b0, 1, none⟩)) rfl rfl rfl rfl rfl (fun j τ w' hj hJ => by simp [rho, upd, Spec.val, execOp, go_sem]) ?_
  refine RXl.exact (.int .i64 (n : Int)) rfl rfl rfl rfl rfl (fun j τ w' hj hJ => by have c := (mo_cells (St.eq (sep_left_comm _ _ _) hJ)).2.1; simp [rho, upd, Spec.val, execOp, go_sem, c]) ?_
  refine RXl.exact (.pointer (some ⟨b0, 0, none⟩)) rfl rfl rfl rfl rfl (fun _ _ _ _ _ => rfl) ?_
  refine RXl.exact (.pointer (some ⟨b0, 0, none⟩)) rfl rfl rfl rfl rfl (fun j τ w' hj hJ => by simp [rho, upd, Spec.val, execOp, go_sem]) ?_
  refine RXl.exact (.pointer (some ⟨b0, 2, none⟩)) rfl rfl rfl rfl rfl (fun j τ w' hj hJ => by simp [rho, upd, Spec.val, execOp, go_sem]) ?_
  refine RXl.exact (.int .i64 (n : Int)) rfl rfl rfl rfl rfl (fun j τ w' hj hJ => by have c := (mo_cells (St.eq (sep_left_comm _ _ _) hJ)).2.2.1; simp [rho, upd, Spec.val, execOp, go_sem, c]) ?_
  refine RXl.exact (.bool false) rfl rfl rfl rfl rfl (fun j τ w' hj hJ => by simp [rho, upd, Spec.val, execOp, go_sem]) ?_
  refine RXl.nilx _ (Agr.upd _ _ (Agr.upd _ _ (Agr.upd _ _ (Agr.upd _ _ (Agr.upd _ _ (Agr.upd _ _ (Agr.upd _ _ (Agr.upd _ _ (Agr.upd _ _ (Agr.base _)))))))))) fun w8 hJ => ?_
  obtain ⟨_, hJ⟩ := hJ
  simp only [Act.put, List.setIfInBounds_toArray, List.set_cons_succ, List.set_cons_zero]
  clear S
  have S := Lib.hid (show St B w0 w8 (mo b0 g0 k0 fb n n f * (fx fb * R)) from St.eq (sep_left_comm _ _ _) hJ)
  clear hJ
  go_wp2_with fail
  have LC := Lib.hid fun (j : Nat) (vs : Nat → Value) (w' : World) (h : PJ B w0 (mo b0 g0 k0 fb n n f * (fx fb * R)) (LF n fb) (LH n fb f (mo b0 g0 k0 fb n n f * (fx fb * R))) j vs w') =>
    show _ from by
      obtain ⟨Z, ⟨Z', rfl⟩, s⟩ := PJ.any (Y := fun Z => ∃ Z', Z = (mo b0 g0 k0 fb n n f * (fx fb * R)) * Z') ⟨emp, (sep_emp _).symm⟩ LH_y h
      exact mo_cells (s.eq (sep_assoc _ _ _))
  refine wp_region_rv [40, 41, 42, 4] (PJ B w0 (mo b0 g0 k0 fb n n f * (fx fb * R)) (LF n fb) (LH n fb f (mo b0 g0 k0 fb n n f * (fx fb * R)))) [16, 17, 18, 19] mixed (by kernel_rfl) (by kernel_rfl) (by kernel_rfl) (fun _ => S.out.drew) ?_
  refine RXl.exact (.pointer (some ⟨b0, 0, none⟩)) rfl rfl rfl rfl rfl (fun _ _ _ _ _ => rfl) ?_
  refine RXl.exact (.pointer (some ⟨b0, 0, none⟩)) rfl rfl rfl rfl rfl (fun j τ w' hj hJ => (by obtain ⟨vs, hv, hJ⟩ := hJ; exact (by simp [rho, upd, Spec.val, execOp, go_sem]))) ?_
  refine RXl.exact (.pointer (some ⟨b0, 0, none⟩)) rfl rfl rfl rfl rfl (fun j τ w' hj hJ => (by obtain ⟨vs, hv, hJ⟩ := hJ; exact (by simp [rho, upd, Spec.val, execOp, go_sem]))) ?_
  refine RXl.exact (.pointer (some ⟨fb, 0, none⟩)) rfl rfl rfl rfl rfl (fun j τ w' hj hJ => (by obtain ⟨vs, hv, hJ⟩ := hJ; exact (by have c := (LC.out _ _ _ hJ).1; simp [rho, upd, Spec.val, execOp, go_sem, c]))) ?_
  refine RXl.exact (.pointer (some ⟨b0, 0, none⟩)) rfl rfl rfl rfl rfl (fun _ _ _ _ _ => rfl) ?_
  refine RXl.exact (.pointer (some ⟨b0, 0, none⟩)) rfl rfl rfl rfl rfl (fun j τ w' hj hJ => (by obtain ⟨vs, hv, hJ⟩ := hJ; exact (by simp [rho, upd, Spec.val, execOp, go_sem]))) ?_
  refine RXl.exact (.pointer (some ⟨b0, 1, none⟩)) rfl rfl rfl rfl rfl (fun j τ w' hj hJ => (by obtain ⟨vs, hv, hJ⟩ := hJ; exact (by simp [rho, upd, Spec.val, execOp, go_sem]))) ?_
  refine RXl.exact (.int .i64 (n : Int)) rfl rfl rfl rfl rfl (fun j τ w' hj hJ => (by obtain ⟨vs, hv, hJ⟩ := hJ; exact (by have c := (LC.out _ _ _ hJ).2.1; simp [rho, upd, Spec.val, execOp, go_sem, c]))) ?_
  refine RXl.exact (.pointer (some ⟨b0, 0, none⟩)) rfl rfl rfl rfl rfl (fun _ _ _ _ _ => rfl) ?_
  refine RXl.exact (.pointer (some ⟨b0, 0, none⟩)) rfl rfl rfl rfl rfl (fun j τ w' hj hJ => (by obtain ⟨vs, hv, hJ⟩ := hJ; exact (by simp [rho, upd, Spec.val, execOp, go_sem]))) ?_
  refine RXl.exact (.pointer (some ⟨b0, 2, none⟩)) rfl rfl rfl rfl rfl (fun j τ w' hj hJ => (by obtain ⟨vs, hv, hJ⟩ := hJ; exact (by simp [rho, upd, Spec.val, execOp, go_sem]))) ?_
  refine RXl.exact (.int .i64 (n : Int)) rfl rfl rfl rfl rfl (fun j τ w' hj hJ => (by obtain ⟨vs, hv, hJ⟩ := hJ; exact (by have c := (LC.out _ _ _ hJ).2.2.1; simp [rho, upd, Spec.val, execOp, go_sem, c]))) ?_
  refine RXl.exact (.pointer (some ⟨b0, 0, none⟩)) rfl rfl rfl rfl rfl (fun _ _ _ _ _ => rfl) ?_
  refine RXl.exact (.pointer (some ⟨b0, 0, none⟩)) rfl rfl rfl rfl rfl (fun j τ w' hj hJ => (by obtain ⟨vs, hv, hJ⟩ := hJ; exact (by simp [rho, upd, Spec.val, execOp, go_sem]))) ?_
  refine RXl.exact (.pointer (some ⟨b0, 3, none⟩)) rfl rfl rfl rfl rfl (fun j τ w' hj hJ => (by obtain ⟨vs, hv, hJ⟩ := hJ; exact (by simp [rho, upd, Spec.val, execOp, go_sem]))) ?_
  refine RXl.exact (.slice (some ⟨g0, 0, none⟩) (n * n) k0) rfl rfl rfl rfl rfl (fun j τ w' hj hJ => (by obtain ⟨vs, hv, hJ⟩ := hJ; exact (by have c := (LC.out _ _ _ hJ).2.2.2; simp [rho, upd, Spec.val, execOp, go_sem, c]))) ?_
  refine RXl.callV 0 40 rfl rfl rfl (Nat.le_of_ble_eq_true rfl) _ [.tmp 39] _ rfl rfl rfl rfl rfl (PJ.first [.slice (some ⟨g0, 0, none⟩) (n * n) k0] (fun ρ w hag => by simp [hag.ex 39 _ rfl rfl rfl]) (fun _ => rfl) (fun w s => by refine (SlW.clone_callsN (some ⟨g0, 0, none⟩) (n * n) k0 (cl n n f) w (mo_bs s) (by omega) s).mono ?_; intro e w1 h; obtain ⟨g1, cap1, rfl, s1⟩ := newB_ret (by simp) h; rw [cl_len] at s1 ⊢; exact ⟨(g1, cap1, 0), rfl, s1⟩)) ?_
  refine RXl.effV 1 41 rfl rfl rfl (Nat.le_of_ble_eq_true rfl) rfl rfl rfl rfl (PJ.pass rfl (fun ρ a w h hag s => by have e := h 0 40 (by decide) rfl; have e1 := hag.ex 27 _ rfl rfl rfl; have e2 := hag.ex 31 _ rfl rfl rfl; have e3 := hag.ex 35 _ rfl rfl rfl; simp [execOp, go_sem, e, e1, e2, e3, LF])) ?_
  refine RXl.effV 2 42 rfl rfl rfl (Nat.le_of_ble_eq_true rfl) rfl rfl rfl rfl (PJ.eff (fun ρ a w h hag s => by have e := h 1 41 (by decide) rfl; refine ⟨(a.1, a.2.1, w.heap.size), w.alloc (.cells (mc a.1 a.2.1 fb n n) 141), by simp [execOp, go_sem, e, LF, mc], fun k hk => by match k, hk with | 0, _ => rfl | 1, _ => rfl, ?_⟩; exact (s.alloc _).eq (by show _ = mo _ _ _ _ _ _ _ * _; unfold mo; show _ * (row _ _ _ _ _ * _) = _; ac_rfl))) ?_
  refine RXl.effV 3 4 rfl rfl rfl (Nat.le_of_ble_eq_true rfl) rfl rfl rfl rfl (PJ.pass rfl (fun ρ a w h hag s => by have e := h 2 42 (by decide) rfl; exact (exec_assign rfl).trans (by rw [e]; rfl))) ?_
  refine RXl.nilV _ (AgrL.unk 4 _ rfl (AgrL.unk 42 _ rfl (AgrL.unk 41 _ rfl (AgrL.unk 40 _ rfl (AgrL.upd _ _ (AgrL.upd _ _ (AgrL.upd _ _ (AgrL.upd _ _ (AgrL.upd _ _ (AgrL.upd _ _ (AgrL.upd _ _ (AgrL.upd _ _ (AgrL.upd _ _ (AgrL.upd _ _ (AgrL.upd _ _ (AgrL.upd _ _ (AgrL.upd _ _ (AgrL.upd _ _ (AgrL.upd _ _ (AgrL.upd _ _ (AgrL.base _))))))))))))))))))))) (by decide) (by decide) fun vs w9 hJ => ?_
  simp only [puts, Act.put, List.setIfInBounds_toArray, List.set_cons_succ, List.set_cons_zero]
  obtain ⟨⟨gl, kl, bl⟩, hv, s9⟩ := hJ
  rw [show vs 0 = LF n fb 0 (gl, kl, bl) from hv 0 (by decide), show vs 1 = LF n fb 1 (gl, kl, bl) from hv 1 (by decide), show vs 2 = .pointer (some ⟨bl, 0, none⟩) from hv 2 (by decide), show vs 3 = .pointer (some ⟨bl, 0, none⟩) from hv 3 (by decide)]
  generalize LF n fb 0 (gl, kl, bl) = x40
  generalize LF n fb 1 (gl, kl, bl) = x41
  clear S LC hv
  have S := Lib.hid (show St B w0 w9 (mo bl gl kl fb n n f * (mo b0 g0 k0 fb n n f * (fx fb * R))) from s9)
  clear s9
  go_wp2_with fail
  refine wp_region_rv [52, 43, 53, 5] (PJ B w0 (mo bl gl kl fb n n f * (mo b0 g0 k0 fb n n f * (fx fb * R))) UF fun (_ : Nat) (b : Nat × Nat × Nat) => mo b.1 b.2.1 b.2.2 fb n n unit * (mo bl gl kl fb n n f * (mo b0 g0 k0 fb n n f * (fx fb * R)))) [8, 9, 10, 12] mixed (by kernel_rfl) (by kernel_rfl) (by kernel_rfl) (fun _ => S.out.drew) ?_
  have LC := Lib.hid fun (j : Nat) (vs : Nat → Value) (w' : World) (h : PJ B w0 (mo bl gl kl fb n n f * (mo b0 g0 k0 fb n n f * (fx fb * R))) UF (fun (_ : Nat) (b : Nat × Nat × Nat) => mo b.1 b.2.1 b.2.2 fb n n unit * (mo bl gl kl fb n n f * (mo b0 g0 k0 fb n n f * (fx fb * R)))) j vs w') =>
    show _ from by
      obtain ⟨Z, ⟨Z', rfl⟩, s⟩ := PJ.any (Y := fun Z => ∃ Z', Z = (mo bl gl kl fb n n f * (mo b0 g0 k0 fb n n f * (fx fb * R))) * Z') ⟨emp, (sep_emp _).symm⟩ (fun (_ : Nat) (b : Nat × Nat × Nat) => ⟨mo b.1 b.2.1 b.2.2 fb n n unit, sep_comm _ _⟩) h
      exact mo_cells (s.eq (Q := mo b0 g0 k0 fb n n f * (mo bl gl kl fb n n f * (fx fb * R) * Z')) (by ac_rfl))
  refine RXl.exact (.pointer (some ⟨b0, 0, none⟩)) rfl rfl rfl rfl rfl (fun _ _ _ _ _ => rfl) ?_
  refine RXl.exact (.pointer (some ⟨b0, 0, none⟩)) rfl rfl rfl rfl rfl (fun j τ w' hj hJ => (by obtain ⟨vs, hv, hJ⟩ := hJ; exact (by simp [rho, upd, Spec.val, execOp, go_sem]))) ?_
  refine RXl.exact (.pointer (some ⟨b0, 0, none⟩)) rfl rfl rfl rfl rfl (fun j τ w' hj hJ => (by obtain ⟨vs, hv, hJ⟩ := hJ; exact (by simp [rho, upd, Spec.val, execOp, go_sem]))) ?_
  refine RXl.exact (.pointer (some ⟨fb, 0, none⟩)) rfl rfl rfl rfl rfl (fun j τ w' hj hJ => (by obtain ⟨vs, hv, hJ⟩ := hJ; exact (by have c := (LC.out _ _ _ hJ).1; simp [rho, upd, Spec.val, execOp, go_sem, c]))) ?_
  refine RXl.exact (.pointer (some ⟨b0, 0, none⟩)) rfl rfl rfl rfl rfl (fun _ _ _ _ _ => rfl) ?_
  refine RXl.exact (.pointer (some ⟨b0, 0, none⟩)) rfl rfl rfl rfl rfl (fun j τ w' hj hJ => (by obtain ⟨vs, hv, hJ⟩ := hJ; exact (by simp [rho, upd, Spec.val, execOp, go_sem]))) ?_
  refine RXl.exact (.pointer (some ⟨b0, 1, none⟩)) rfl rfl rfl rfl rfl (fun j τ w' hj hJ => (by obtain ⟨vs, hv, hJ⟩ := hJ; exact (by simp [rho, upd, Spec.val, execOp, go_sem]))) ?_
  refine RXl.exact (.int .i64 (n : Int)) rfl rfl rfl rfl rfl (fun j τ w' hj hJ => (by obtain ⟨vs, hv, hJ⟩ := hJ; exact (by have c := (LC.out _ _ _ hJ).2.1; simp [rho, upd, Spec.val, execOp, go_sem, c]))) ?_
  refine RXl.callV 0 52 rfl rfl rfl (Nat.le_of_ble_eq_true rfl) _ [.tmp 47, .tmp 51] _ rfl rfl rfl rfl rfl (PJ.first [.pointer (some ⟨fb, 0, none⟩), .int .i64 (n : Int)] (fun ρ w hag => by simp [hag.ex 47 _ rfl rfl rfl, hag.ex 51 _ rfl rfl rfl]) (fun _ => rfl) (fun w s => by refine (unit_good fb n hn w s).mono ?_; rintro e w1 ⟨b1, rfl, s1⟩; obtain ⟨g1, k1, s1⟩ := mt_open s1; exact ⟨(b1, g1, k1), rfl, s1⟩)) ?_
  refine RXl.effV 1 43 rfl rfl rfl (Nat.le_of_ble_eq_true rfl) rfl rfl rfl rfl (PJ.pass rfl (fun ρ a w h hag s => by have e := h 0 52 (by decide) rfl; exact (exec_move rfl).trans (by rw [e]; rfl))) ?_
  refine RXl.effV 2 53 rfl rfl rfl (Nat.le_of_ble_eq_true rfl) rfl rfl rfl rfl (PJ.pass rfl (fun ρ a w h hag s => by have e := h 1 43 (by decide) rfl; exact exec_extract rfl e rfl)) ?_
  refine RXl.value (.ex (.int .i64 0)) (Free.ex _) rfl rfl rfl rfl (fun ρ w' j hj hI hag => ⟨_, (by obtain ⟨a, e⟩ := PJ.val (hag.so 43 _ rfl rfl rfl); exact exec_extract rfl e rfl), rfl⟩) ?_
  refine RXl.effV 3 5 rfl rfl rfl (Nat.le_of_ble_eq_true rfl) rfl rfl rfl rfl (PJ.pass rfl (fun ρ a w h hag s => by have e := h 2 53 (by decide) rfl; exact (exec_assign rfl).trans (by rw [e]; rfl))) ?_
  refine RXl.exact (.int .i64 0) rfl rfl rfl rfl rfl (fun _ _ _ _ _ => rfl) ?_
  refine RXl.nilV _ (AgrL.upd _ _ (AgrL.unk 5 _ rfl (AgrL.upd _ _ (AgrL.unk 53 _ rfl (AgrL.unk 43 _ rfl (AgrL.unk 52 _ rfl (AgrL.upd _ _ (AgrL.upd _ _ (AgrL.upd _ _ (AgrL.upd _ _ (AgrL.upd _ _ (AgrL.upd _ _ (AgrL.upd _ _ (AgrL.upd _ _ (AgrL.base _))))))))))))))) (by decide) (by decide) fun vs w10 hJ => ?_
  simp only [puts, Act.put, List.setIfInBounds_toArray, List.set_cons_succ, List.set_cons_zero]
  obtain ⟨⟨bo, go, ko⟩, hv, s9⟩ := hJ
  rw [show vs 0 = UF 0 (bo, go, ko) from hv 0 (by decide), show vs 1 = UF 1 (bo, go, ko) from hv 1 (by decide), show vs 2 = .pointer (some ⟨bo, 0, none⟩) from hv 2 (by decide), show vs 3 = .pointer (some ⟨bo, 0, none⟩) from hv 3 (by decide)]
  generalize UF 0 (bo, go, ko) = x52
  generalize UF 1 (bo, go, ko) = x43
  clear S LC hv
  have c1 := (mo_cells (St.eq (Q := mo b0 g0 k0 fb n n f * (mo bo go ko fb n n unit * (mo bl gl kl fb n n f * (fx fb * R)))) (by ac_rfl) s9)).2.2.1
  have S := Lib.hid (St.eq (Q := mo bl gl kl fb n n (f) * (mo bo go ko fb n n (unit) * (fx fb * (mo b0 g0 k0 fb n n f * R)))) (by ac_rfl) s9)
  clear s9
  go_wp2_with fail
  clear c1
  go_loopw [59] (fun i wr => ∃ (k : Nat) (A Bm : Mx), k ≤ n ∧ i = .int .i64 k ∧ gj n f k = some (A, Bm) ∧ St B w0 wr (mo bl gl kl fb n n (A) * (mo bo go ko fb n n (Bm) * (fx fb * (mo b0 g0 k0 fb n n f * R))))) (fun i _ => n - (intOf i).toNat)
  case atStart => exact ⟨0, f, unit, Nat.zero_le _, rfl, rfl, S.out⟩
  case round =>
    obtain ⟨k, A, Bm, hk, rfl, hg, s⟩ := hrel
    have HG := Lib.hid hg
    clear S hg
    have S := Lib.hid s
    clear s
    by_cases hlt : k < n
    · skip
      go_wp2_with fail
      go_loopw [8] (fun i wr => ∃ p : Nat, k ≤ p ∧ p ≤ n ∧ i = .int .i64 p ∧ (∀ q, k ≤ q → q < p → A q k = 0) ∧ St B w0 wr (mo bl gl kl fb n n (A) * (mo bo go ko fb n n (Bm) * (fx fb * (mo b0 g0 k0 fb n n f * R))))) (fun i _ => n - (intOf i).toNat)
      case atStart => exact ⟨k, Nat.le_refl _, by omega, rfl, fun q h1 h2 => absurd h2 (by omega), S.out⟩
      case round =>
        obtain ⟨p, hp1, hp2, rfl, hz, s⟩ := hrel
        have HZ := Lib.hid hz
        clear S hz
        have c1 := (mo_cells (St.eq (Q := mo b0 g0 k0 fb n n f * (mo bl gl kl fb n n (A) * (mo bo go ko fb n n (Bm) * (fx fb * R)))) (by ac_rfl) s)).2.1
        by_cases hpn : p < n
        · by_cases hap : A p k = 0
          · have S := Lib.hid s
            have HA := Lib.hid hap
            clear s hap
            go_wp2_with fail
            refine (at_in bl gl kl fb n n A p k hpn hlt (by omega) _ S.out).mono ?_
            rw [HA.out]
            rintro e wq ⟨rfl, sq⟩
            clear S c1
            have S := Lib.hid sq
            clear sq
            go_wp2_with fail
            go_roundw
            case rel => exact ⟨p + 1, by omega, by omega, by go_num, fun q h1 h2 => by by_cases e : q = p; (subst e; exact HA.out); exact HZ.out q h1 (by omega), S.out⟩
            case measure => simp [intOf]; omega
          · have HP := Lib.hid (gj_next HG.out (pv_eq hp1 hp2 HZ.out (fun _ => hap)) (by omega))
            have S := Lib.hid s
            have hx0 := u8_pos hap
            have HA := Lib.hid hap
            have hx1 : ((((A p k).toNat : Nat) : Int) == 0) = false := by simpa using hx0
            have hne : ((p : Int) == (n : Int)) = false := by rw [beq_eq_false_iff_ne]; omega
            clear s hap hx0 HZ HG
            go_wp2_with fail
            refine (at_in bl gl kl fb n n A p k hpn hlt (by omega) _ S.out).mono ?_
            rintro e wq ⟨rfl, sq⟩
            clear S c1
            have c1 := (mo_cells (St.eq (Q := mo b0 g0 k0 fb n n f * (mo bl gl kl fb n n (A) * (mo bo go ko fb n n (Bm) * (fx fb * R)))) (by ac_rfl) sq)).2.1
            have S := Lib.hid sq
            clear sq
            go_wp2_with fail
            clear c1 hx1
            refine wp_region_rx (fun _ w' => St B w0 w' (mo bl gl kl fb n n (A) * (mo bo go ko fb n n (Bm) * (fx fb * (mo b0 g0 k0 fb n n f * R))))) [] mixed (by kernel_rfl) (by kernel_rfl) S.out.drew ?_
            refine RXl.exact (.pointer (some ⟨b0, 0, none⟩)) rfl rfl rfl rfl rfl (fun _ _ _ _ _ => rfl) ?_
            refine RXl.exact (.pointer (some ⟨b0, 0, none⟩)) rfl rfl rfl rfl rfl (fun j τ w' hj hJ => by simp [rho, upd, Spec.val, execOp, go_sem]) ?_
            refine RXl.exact (.pointer (some ⟨b0, 0, none⟩)) rfl rfl rfl rfl rfl (fun j τ w' hj hJ => by simp [rho, upd, Spec.val, execOp, go_sem]) ?_
            refine RXl.exact (.pointer (some ⟨fb, 0, none⟩)) rfl rfl rfl rfl rfl (fun j τ w' hj hJ => by have c := (mo_cells (St.eq (P := mo bl gl kl fb n n (A) * (mo bo go ko fb n n (Bm) * (fx fb * (mo b0 g0 k0 fb n n f * R)))) (Q := mo b0 g0 k0 fb n n f * (mo bl gl kl fb n n (A) * (mo bo go ko fb n n (Bm) * (fx fb * R)))) (by ac_rfl) hJ)).1; simp [rho, upd, Spec.val, execOp, go_sem, c]) ?_
            refine RXl.exact (.pointer (some ⟨bl, 0, none⟩)) rfl rfl rfl rfl rfl (fun _ _ _ _ _ => rfl) ?_
            refine RXl.exact (.int .i64 (p : Int)) rfl rfl rfl rfl rfl (fun _ _ _ _ _ => rfl) ?_
            refine RXl.exact (.int .i64 (k : Int)) rfl rfl rfl rfl rfl (fun _ _ _ _ _ => rfl) ?_
            refine RXl.callr (bv (A p k)) _ [.pointer (some ⟨bl, 0, none⟩), .int .i64 (p : Int), .int .i64 (k : Int)] [.tmp 89, .tmp 90, .tmp 91] _ rfl rfl rfl rfl rfl rfl (fun _ => rfl) (fun j τ w' hj hJ => at_in bl gl kl fb n n A p k hpn hlt (by omega) w' hJ) ?_
            refine RXl.callr (.tuple #[bv (ginv (A p k)), .bool (gok (A p k))]) _ [.pointer (some ⟨fb, 0, none⟩), bv (A p k)] [.tmp 88, .tmp 92] _ rfl rfl rfl rfl rfl rfl (fun _ => rfl) (fun j τ w' hj hJ => via (by ac_rfl) hJ (invx fb (A p k) w' (R := mo bl gl kl fb n n A * (mo bo go ko fb n n Bm * (mo b0 g0 k0 fb n n f * R))))) ?_
            refine RXl.exact (.tuple #[bv (ginv (A p k)), .bool (gok (A p k))]) rfl rfl rfl rfl rfl (fun _ _ _ _ _ => rfl) ?_
            refine RXl.exact (bv (ginv (A p k))) rfl rfl rfl rfl rfl (fun j τ w' hj hJ => by simp [rho, upd, Spec.val, execOp, go_sem]) ?_
            refine RXl.exact (.bool (gok (A p k))) rfl rfl rfl rfl rfl (fun j τ w' hj hJ => by simp [rho, upd, Spec.val, execOp, go_sem]) ?_
            refine RXl.exact (bv (ginv (A p k))) rfl rfl rfl rfl rfl (fun _ _ _ _ _ => rfl) ?_
            refine RXl.exact (.bool (gok (A p k))) rfl rfl rfl rfl rfl (fun _ _ _ _ _ => rfl) ?_
            refine RXl.nilx _ (Agr.upd _ _ (Agr.upd _ _ (Agr.upd _ _ (Agr.upd _ _ (Agr.upd _ _ (Agr.upd _ _ (Agr.upd _ _ (Agr.upd _ _ (Agr.upd _ _ (Agr.upd _ _ (Agr.upd _ _ (Agr.upd _ _ (Agr.upd _ _ (Agr.upd _ _ (Agr.base _))))))))))))))) fun w11 hJ => ?_
            obtain ⟨_, hJ⟩ := hJ
            simp only [Act.put, List.setIfInBounds_toArray, List.set_cons_succ, List.set_cons_zero]
            clear S
            have S := Lib.hid (show St B w0 w11 (mo bl gl kl fb n n (A) * (mo bo go ko fb n n (Bm) * (fx fb * (mo b0 g0 k0 fb n n f * R)))) from hJ)
            clear hJ
            generalize gok (A p k) = gokA
            go_wp2_with fail
            have s2 := S.out.alloc (.cells #[.pointer (some ⟨bl, 0, none⟩), .pointer (some ⟨bo, 0, none⟩)] 124)
            generalize w11.heap.size = hp at *
            clear S
            have S := Lib.hid s2
            clear s2
            go_loopw [100] (fun i wr => (i = .int .i64 0 ∧ St B w0 wr (pts hp (.cells #[.pointer (some ⟨bl, 0, none⟩), .pointer (some ⟨bo, 0, none⟩)] 124) * (mo bl gl kl fb n n (A) * (mo bo go ko fb n n (Bm) * (fx fb * (mo b0 g0 k0 fb n n f * R)))))) ∨
              (i = .int .i64 1 ∧ St B w0 wr (pts hp (.cells #[.pointer (some ⟨bl, 0, none⟩), .pointer (some ⟨bo, 0, none⟩)] 124) * (mo bl gl kl fb n n (rsc (rsw A p k) k (ginv (A p k))) * (mo bo go ko fb n n (Bm) * (fx fb * (mo b0 g0 k0 fb n n f * R)))))) ∨
              (i = .int .i64 2 ∧ St B w0 wr (pts hp (.cells #[.pointer (some ⟨bl, 0, none⟩), .pointer (some ⟨bo, 0, none⟩)] 124) * (mo bl gl kl fb n n (rsc (rsw A p k) k (ginv (A p k))) * (mo bo go ko fb n n (rsc (rsw Bm p k) k (ginv (A p k))) * (fx fb * (mo b0 g0 k0 fb n n f * R))))))) (fun i _ => 2 - (intOf i).toNat)
            case atStart => exact .inl ⟨rfl, S.out⟩
            case round =>
              clear S
              rcases hrel with ⟨rfl, s⟩ | ⟨rfl, s⟩ | ⟨rfl, s⟩
              · have c0 := s.cell 0
                simp at c0
                have S := Lib.hid s
                clear s
                go_wp2_with fail
                refine (swap_calls bl gl kl fb n n A p k hpn hlt hn.2 hn _ (S.out.eq (Q := mo bl gl kl fb n n A * (pts hp (.cells #[.pointer (some ⟨bl, 0, none⟩), .pointer (some ⟨bo, 0, none⟩)] 124) * (mo bo go ko fb n n Bm * (fx fb * (mo b0 g0 k0 fb n n f * R))))) (by ac_rfl))).mono ?_
                rintro e wq ⟨rfl, sq⟩
                clear S c0
                have S := Lib.hid sq
                clear sq
                go_wp2_with fail
                refine (scale_calls bl gl kl fb n n (rsw A p k) k (ginv (A p k)) hlt hn.2 hn _ (S.out.eq (Q := fx fb * (mo bl gl kl fb n n (rsw A p k) * (pts hp (.cells #[.pointer (some ⟨bl, 0, none⟩), .pointer (some ⟨bo, 0, none⟩)] 124) * (mo bo go ko fb n n Bm * (mo b0 g0 k0 fb n n f * R))))) (by ac_rfl))).mono ?_
                rintro e wq ⟨rfl, sq⟩
                clear S
                have S := Lib.hid sq
                clear sq
                go_wp2_with fail
                go_roundw
                case rel => exact .inr (.inl ⟨rfl, S.out.eq (by ac_rfl)⟩)
                case measure => simp [intOf]
              · have c0 := s.cell 1
                simp at c0
                have S := Lib.hid s
                clear s
                go_wp2_with fail
                refine (swap_calls bo go ko fb n n Bm p k hpn hlt hn.2 hn _ (S.out.eq (Q := mo bo go ko fb n n Bm * (pts hp (.cells #[.pointer (some ⟨bl, 0, none⟩), .pointer (some ⟨bo, 0, none⟩)] 124) * (mo bl gl kl fb n n (rsc (rsw A p k) k (ginv (A p k))) * (fx fb * (mo b0 g0 k0 fb n n f * R))))) (by ac_rfl))).mono ?_
                rintro e wq ⟨rfl, sq⟩
                clear S c0
                have S := Lib.hid sq
                clear sq
                go_wp2_with fail
                refine (scale_calls bo go ko fb n n (rsw Bm p k) k (ginv (A p k)) hlt hn.2 hn _ (S.out.eq (Q := fx fb * (mo bo go ko fb n n (rsw Bm p k) * (pts hp (.cells #[.pointer (some ⟨bl, 0, none⟩), .pointer (some ⟨bo, 0, none⟩)] 124) * (mo bl gl kl fb n n (rsc (rsw A p k) k (ginv (A p k))) * (mo b0 g0 k0 fb n n f * R))))) (by ac_rfl))).mono ?_
                rintro e wq ⟨rfl, sq⟩
                clear S
                have S := Lib.hid sq
                clear sq
                go_wp2_with fail
                go_roundw
                case rel => exact .inr (.inr ⟨rfl, S.out.eq (by ac_rfl)⟩)
                case measure => simp [intOf]
              · have c1 := (mo_cells (St.eq (Q := mo b0 g0 k0 fb n n f * (mo bl gl kl fb n n (rsc (rsw A p k) k (ginv (A p k))) * (mo bo go ko fb n n (rsc (rsw Bm p k) k (ginv (A p k))) * (fx fb * R)))) (by ac_rfl) s.right)).2.1
                have S := Lib.hid s.right
                clear s
                generalize rsc (rsw A p k) k (ginv (A p k)) = A2 at S HP
                generalize rsc (rsw Bm p k) k (ginv (A p k)) = B2 at S HP
                go_wp2_with fail
                clear c1
                go_loopw [117] (fun i wr => ∃ q : Nat, q ≤ n ∧ i = .int .i64 q ∧ St B w0 wr (mo bl gl kl fb n n (elm A2 A2 k q) * (mo bo go ko fb n n (elm B2 A2 k q) * (fx fb * (mo b0 g0 k0 fb n n f * R))))) (fun i _ => n - (intOf i).toNat)
                case atStart => exact ⟨0, Nat.zero_le _, rfl, by rw [elm_zero, elm_zero]; exact S.out⟩
                case round =>
                  obtain ⟨q, hq, rfl, s⟩ := hrel
                  clear S
                  have S := Lib.hid s
                  clear s
                  by_cases hqn : q < n
                  · skip
                    go_wp2_with fail
                    refine (at_in bl gl kl fb n n (elm A2 A2 k q) q k hqn hlt (by omega) _ S.out).mono ?_
                    rw [elm_at]
                    rintro e wq ⟨rfl, sq⟩
                    clear S
                    have S := Lib.hid sq
                    clear sq
                    by_cases hqk : q = k
                    · have hqe : ((q : Int) != (k : Int)) = false := by rw [hqk]; simp
                      have HE1 := Lib.hid (show elm A2 A2 k q = elm A2 A2 k (q + 1) by rw [hqk]; exact elm_skip A2 A2 k)
                      have HE2 := Lib.hid (show elm B2 A2 k q = elm B2 A2 k (q + 1) by rw [hqk]; exact elm_skip B2 A2 k)
                      clear hqk
                      go_wp2_with fail
                      go_roundw
                      case rel => exact ⟨q + 1, by omega, by go_num, by rw [← HE1.out, ← HE2.out]; exact S.out⟩
                      case measure => simp [intOf]; omega
                    · have hqe : ((q : Int) != (k : Int)) = true := by rw [bne_iff_ne]; omega
                      have HE1 := Lib.hid (elm_step A2 A2 k q hqk)
                      have HE2 := Lib.hid (elm_step B2 A2 k q hqk)
                      clear hqk
                      go_wp2_with fail
                      refine (add_calls bl gl kl fb n n (elm A2 A2 k q) k q (A2 q k) hlt hqn hn.2 hn _ (S.out.eq (Q := fx fb * (mo bl gl kl fb n n (elm A2 A2 k q) * (mo bo go ko fb n n (elm B2 A2 k q) * (mo b0 g0 k0 fb n n f * R)))) (by ac_rfl))).mono ?_
                      rw [HE1.out]
                      rintro e wq ⟨rfl, sq⟩
                      clear S
                      have S := Lib.hid sq
                      clear sq
                      go_wp2_with fail
                      refine (add_calls bo go ko fb n n (elm B2 A2 k q) k q (A2 q k) hlt hqn hn.2 hn _ (S.out.eq (Q := fx fb * (mo bo go ko fb n n (elm B2 A2 k q) * (mo bl gl kl fb n n (elm A2 A2 k (q + 1)) * (mo b0 g0 k0 fb n n f * R)))) (by ac_rfl))).mono ?_
                      rw [HE2.out]
                      rintro e wq ⟨rfl, sq⟩
                      clear S
                      have S := Lib.hid sq
                      clear sq
                      go_wp2_with fail
                      go_roundw
                      case rel => exact ⟨q + 1, by omega, by go_num, S.out.eq (by ac_rfl)⟩
                      case measure => simp [intOf]; omega
                  · obtain rfl : q = n := by omega
                    go_wp2_with fail
                    go_roundw
                    case rel => exact ⟨k + 1, _, _, by omega, by go_num, HP.out, S.out⟩
                    case measure => simp [intOf]; omega
        · obtain rfl : p = n := by omega
          have HN := Lib.hid (gj_none (gj_sing HG.out (pv_eq hp1 hp2 HZ.out (fun h => absurd h hpn))) (p - (k + 1)))
          rw [show k + 1 + (p - (k + 1)) = p by omega] at HN
          have S := Lib.hid s
          clear s HZ HG
          go_wp2_with fail
          go_ret2
          exact InvP.none HN.out (S.out.right.right.eq (by ac_rfl))
    · obtain rfl : k = n := by omega
      go_wp2_with fail
      go_ret2
      exact InvP.some HG.out (mt_close (g := go) (cap := ko) ((S.out.eq (Q := mo bl gl kl fb k k A * (mo bo go ko fb k k Bm * (fx fb * (mo b0 g0 k0 fb k k f * R)))) rfl).right))
end
end Go.Proofs.Ytjnfhppjkadlpaa.Mt
