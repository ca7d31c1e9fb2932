/- gf.Field's methods, walked. -/
import Derived.Test.YtjnfhppjkadlpaaGfT
namespace Go.Proofs.Ytjnfhppjkadlpaa.Gf
open Go Go.RowKit Go.Proofs.Ytjnfhppjkadlpaa Go.Proofs.Ytjnfhppjkadlpaa.Sp Go.Proofs.Ytjnfhppjkadlpaa.Reg Go.Proofs.Ytjnfhppjkadlpaa.GfO
/-- Product. -/
def gmul (a b : UInt8) : UInt8 := if a = 0 ∨ b = 0 then 0 else UInt8.ofNat (gexp (glog a.toNat + glog b.toNat))
def ginv (a : UInt8) : UInt8 := if a = 0 then 0 else UInt8.ofNat (gexp (255 - glog a.toNat))
def gpow (a : UInt8) (n : Int) : UInt8 := if n = 0 then 1 else if a = 0 then 0 else UInt8.ofNat (gexp (glog a.toNat * (n % 255).toNat % 255))
def gok (a : UInt8) : Bool := !decide (a = 0)
section
variable {B : Nat} {w0 : World} {R : HP}
/-- What is handed back, and the field behind it. -/
def RetF (B : Nat) (w0 : World) (b : Nat) (R : HP) (v : Value) : Ending → World → Prop := fun e w' => e = .returned v ∧ ∃ m, St B w0 w' (fo b m * R)
theorem fo_log {b : Nat} {w : World} (s : St B w0 w (fo b true * R)) (a : UInt8) : w.cell? ⟨b, 514 + a.toNat, none⟩ = some (.int .i64 (glog a.toNat : Nat)) := by
  have ha : a.toNat < 256 := a.toNat_lt
  have h : a.toNat < (logL 255).length := by rw [logL_len]; exact ha
  rw [St.cell s, if_pos rfl, fc_log _ (expL_len _) h]
  have q := logL_get a.toNat ha
  rw [List.getElem?_eq_getElem h] at q
  rw [Option.some.inj q]
theorem fo_exp {b : Nat} {w : World} (s : St B w0 w (fo b true * R)) (j : Nat) (hj : j < 510) : w.cell? ⟨b, 4 + j, none⟩ = some (bv (UInt8.ofNat (gexp j))) := by
  have h : j < (expL 255).length := by rw [expL_len]; exact hj
  rw [St.cell s, if_pos rfl, fc_exp _ h]
  have q := expL_get j hj
  rw [List.getElem?_eq_getElem h] at q
  rw [Option.some.inj q]
theorem u8_pos {a : UInt8} (h : ¬ a = 0) : ¬ (a.toNat : Int) = 0 := fun e => h (UInt8.toNat_inj.1 (by simp; omega))
set_option maxRecDepth 100000 in
set_option maxHeartbeats 4000000 in
theorem mul_calls (b : Nat) (m : Bool) (x y : UInt8) (w : World) (s : St B w0 w (fo b m * R)) :
    Calls Try.prog 65 #[.pointer (some ⟨b, 0, none⟩), bv x, bv y] w (RetF B w0 b R (bv (gmul x y))) := by
  have S := Lib.hid s
  clear s
  by_cases hx : x = 0
  · subst hx
    have hz : gmul 0 y = 0 := by simp [gmul]
    rw [hz]
    go_enter Try.func65, Try.ntmps65
    go_wp2_with fail
    go_ret
    exact ⟨rfl, m, S.out⟩
  · by_cases hy : y = 0
    · subst hy
      have hz : gmul x 0 = 0 := by simp [gmul]
      rw [hz]
      have hx0 := u8_pos hx
      have hx1 : ((x.toNat : Int) == 0) = false := by simpa using hx0
      clear hx hx0
      go_enter Try.func65, Try.ntmps65
      go_wp2_with fail
      go_ret
      exact ⟨rfl, m, S.out⟩
    · have hz : gmul x y = UInt8.ofNat (gexp (glog x.toNat + glog y.toNat)) := by unfold gmul; rw [if_neg (by simp [hx, hy])]
      rw [hz]
      have hx1 : ((x.toNat : Int) == 0) = false := by simpa using u8_pos hx
      have hy1 : ((y.toNat : Int) == 0) = false := by simpa using u8_pos hy
      have g1 := glog_lt x.toNat x.toNat_lt
      have g2 := glog_lt y.toNat y.toNat_lt
      have l1 : x.toNat < 256 := x.toNat_lt
      have l2 : y.toNat < 256 := y.toNat_lt
      clear hx hy hz
      go_enter Try.func65, Try.ntmps65
      go_wp2_with fail
      refine (tables_calls b m w S.out).mono ?_
      rintro e w2 ⟨rfl, s2⟩
      have S2 := Lib.hid s2
      clear s2 S
      go_wp2_with fail
      refine wp_region_rx (fun _ w' => St B w0 w' (fo b true * R)) [] mixed (by kernel_rfl) (by kernel_rfl) S2.out.drew ?_
      refine RXl.exact (.pointer (some ⟨b, 0, none⟩)) rfl rfl rfl rfl rfl (fun _ _ _ _ _ => rfl) ?_
      refine RXl.exact (.pointer (some ⟨b, 0, none⟩)) rfl rfl rfl rfl rfl (fun _ _ _ _ _ => rfl) ?_
      refine RXl.exact (bv x) rfl rfl rfl rfl rfl (fun _ _ _ _ _ => rfl) ?_
      refine RXl.exact (.pointer (some ⟨b, 0, none⟩)) rfl rfl rfl rfl rfl (fun j τ w' hj hJ => by simp [rho, upd, Spec.val, execOp, go_sem]) ?_
      refine RXl.exact (.pointer (some ⟨b, 514, none⟩)) rfl rfl rfl rfl rfl (fun j τ w' hj hJ => by simp [rho, upd, Spec.val, execOp, go_sem]) ?_
      refine RXl.exact (.pointer (some ⟨b, 514 + x.toNat, none⟩)) rfl rfl rfl rfl rfl (fun j τ w' hj hJ => by simp [rho, upd, Spec.val, execOp, go_sem, bv]; intro hh; omega) ?_
      refine RXl.exact (.int .i64 (glog x.toNat : Nat)) rfl rfl rfl rfl rfl (fun j τ w' hj hJ => by have c := fo_log hJ x; simp [rho, upd, Spec.val, execOp, go_sem, c]) ?_
      refine RXl.exact (.pointer (some ⟨b, 0, none⟩)) rfl rfl rfl rfl rfl (fun _ _ _ _ _ => rfl) ?_
      refine RXl.exact (bv y) rfl rfl rfl rfl rfl (fun _ _ _ _ _ => rfl) ?_
      refine RXl.exact (.pointer (some ⟨b, 0, none⟩)) rfl rfl rfl rfl rfl (fun j τ w' hj hJ => by simp [rho, upd, Spec.val, execOp, go_sem]) ?_
      refine RXl.exact (.pointer (some ⟨b, 514, none⟩)) rfl rfl rfl rfl rfl (fun j τ w' hj hJ => by simp [rho, upd, Spec.val, execOp, go_sem]) ?_
      refine RXl.exact (.pointer (some ⟨b, 514 + y.toNat, none⟩)) rfl rfl rfl rfl rfl (fun j τ w' hj hJ => by simp [rho, upd, Spec.val, execOp, go_sem, bv]; intro hh; omega) ?_
      refine RXl.exact (.int .i64 (glog y.toNat : Nat)) rfl rfl rfl rfl rfl (fun j τ w' hj hJ => by have c := fo_log hJ y; simp [rho, upd, Spec.val, execOp, go_sem, c]) ?_
      refine RXl.exact (.int .i64 ((glog x.toNat + glog y.toNat : Nat) : Int)) rfl rfl rfl rfl rfl (fun j τ w' hj hJ => by simp [rho, upd, Spec.val, execOp, go_sem]; rw [IntKind.wrap_i64]; omega) ?_
      refine RXl.exact (.pointer (some ⟨b, 0, none⟩)) rfl rfl rfl rfl rfl (fun j τ w' hj hJ => by simp [rho, upd, Spec.val, execOp, go_sem]) ?_
      refine RXl.exact (.pointer (some ⟨b, 4, none⟩)) rfl rfl rfl rfl rfl (fun j τ w' hj hJ => by simp [rho, upd, Spec.val, execOp, go_sem]) ?_
      refine RXl.exact (.pointer (some ⟨b, 4 + (glog x.toNat + glog y.toNat), none⟩)) rfl rfl rfl rfl rfl (fun j τ w' hj hJ => by have t1 : ((glog x.toNat : Int) + (glog y.toNat : Int)).toNat = glog x.toNat + glog y.toNat := (by omega); have t2 : (0 : Int) ≤ (glog x.toNat : Int) + (glog y.toNat : Int) := (by omega); have t3 : (glog x.toNat : Int) + (glog y.toNat : Int) < 510 := (by omega); simp [rho, upd, Spec.val, execOp, go_sem, t1, t2, t3]) ?_
      refine RXl.exact (bv (UInt8.ofNat (gexp (glog x.toNat + glog y.toNat)))) rfl rfl rfl rfl rfl (fun j τ w' hj hJ => by have c := fo_exp hJ (glog x.toNat + glog y.toNat) (by omega); simp [rho, upd, Spec.val, execOp, go_sem, c]) ?_
      refine RXl.exact (bv (UInt8.ofNat (gexp (glog x.toNat + glog y.toNat)))) rfl rfl rfl rfl rfl (fun _ _ _ _ _ => rfl) ?_
      refine RXl.nilx _ (Agr.upd _ _ (Agr.upd _ _ (Agr.upd _ _ (Agr.upd _ _ (Agr.upd _ _ (Agr.upd _ _ (Agr.upd _ _ (Agr.upd _ _ (Agr.upd _ _ (Agr.upd _ _ (Agr.upd _ _ (Agr.upd _ _ (Agr.upd _ _ (Agr.upd _ _ (Agr.upd _ _ (Agr.upd _ _ (Agr.upd _ _ (Agr.upd _ _ (Agr.upd _ _ (Agr.base _)))))))))))))))))))) fun w8 hJ => ?_
      obtain ⟨_, hJ⟩ := hJ
      simp only [Act.put, List.setIfInBounds_toArray, List.set_cons_succ, List.set_cons_zero]
      have S3 := Lib.hid (show St B w0 w8 (fo b true * R) from hJ)
      clear hJ S2
      go_wp2_with fail
      go_ret
      exact ⟨rfl, true, S3.out⟩
set_option maxRecDepth 100000 in
set_option maxHeartbeats 4000000 in
theorem inv_calls (b : Nat) (m : Bool) (x : UInt8) (w : World) (s : St B w0 w (fo b m * R)) :
    Calls Try.prog 40 #[.pointer (some ⟨b, 0, none⟩), bv x] w (RetF B w0 b R (.tuple #[bv (ginv x), .bool (gok x)])) := by
  have S := Lib.hid s
  clear s
  by_cases hx : x = 0
  · subst hx
    rw [show ginv 0 = 0 from rfl, show gok 0 = false from rfl]
    go_enter Try.func40, Try.ntmps40
    go_wp2_with fail
    go_ret2
    exact ⟨rfl, m, S.out⟩
  · have hz : ginv x = UInt8.ofNat (gexp (255 - glog x.toNat)) := by unfold ginv; rw [if_neg hx]
    rw [hz, show gok x = true by simp [gok, hx]]
    have hx1 : ((x.toNat : Int) == 0) = false := by simpa using u8_pos hx
    have g1 := glog_lt x.toNat x.toNat_lt
    have l1 : x.toNat < 256 := x.toNat_lt
    clear hx hz
    go_enter Try.func40, Try.ntmps40
    go_wp2_with fail
    refine (tables_calls b m w S.out).mono ?_
    rintro e w2 ⟨rfl, s2⟩
    have S2 := Lib.hid s2
    clear s2 S
    go_wp2_with fail
    refine wp_region_rx (fun _ w' => St B w0 w' (fo b true * R)) [] mixed (by kernel_rfl) (by kernel_rfl) S2.out.drew ?_
    refine RXl.exact (.pointer (some ⟨b, 0, none⟩)) rfl rfl rfl rfl rfl (fun _ _ _ _ _ => rfl) ?_
    refine RXl.exact (.pointer (some ⟨b, 0, none⟩)) rfl rfl rfl rfl rfl (fun _ _ _ _ _ => rfl) ?_
    refine RXl.exact (bv x) rfl rfl rfl rfl rfl (fun _ _ _ _ _ => rfl) ?_
    refine RXl.exact (.pointer (some ⟨b, 0, none⟩)) rfl rfl rfl rfl rfl (fun j τ w' hj hJ => by simp [rho, upd, Spec.val, execOp, go_sem]) ?_
    refine RXl.exact (.pointer (some ⟨b, 514, none⟩)) rfl rfl rfl rfl rfl (fun j τ w' hj hJ => by simp [rho, upd, Spec.val, execOp, go_sem]) ?_
    refine RXl.exact (.pointer (some ⟨b, 514 + x.toNat, none⟩)) rfl rfl rfl rfl rfl (fun j τ w' hj hJ => by simp [rho, upd, Spec.val, execOp, go_sem, bv]; intro hh; omega) ?_
    refine RXl.exact (.int .i64 (glog x.toNat : Nat)) rfl rfl rfl rfl rfl (fun j τ w' hj hJ => by have c := fo_log hJ x; simp [rho, upd, Spec.val, execOp, go_sem, c]) ?_
    refine RXl.exact (.int .i64 ((255 - glog x.toNat : Nat) : Int)) rfl rfl rfl rfl rfl (fun j τ w' hj hJ => by simp [rho, upd, Spec.val, execOp, go_sem]; rw [IntKind.wrap_i64]; omega) ?_
    refine RXl.exact (.pointer (some ⟨b, 0, none⟩)) rfl rfl rfl rfl rfl (fun j τ w' hj hJ => by simp [rho, upd, Spec.val, execOp, go_sem]) ?_
    refine RXl.exact (.pointer (some ⟨b, 4, none⟩)) rfl rfl rfl rfl rfl (fun j τ w' hj hJ => by simp [rho, upd, Spec.val, execOp, go_sem]) ?_
    refine RXl.exact (.pointer (some ⟨b, 4 + (255 - glog x.toNat), none⟩)) rfl rfl rfl rfl rfl (fun j τ w' hj hJ => by have t3 : ((255 - glog x.toNat : Nat) : Int) < 510 := (by omega); simp [rho, upd, Spec.val, execOp, go_sem, t3]) ?_
    refine RXl.exact (bv (UInt8.ofNat (gexp (255 - glog x.toNat)))) rfl rfl rfl rfl rfl (fun j τ w' hj hJ => by have c := fo_exp hJ (255 - glog x.toNat) (by omega); simp [rho, upd, Spec.val, execOp, go_sem, c]) ?_
    refine RXl.exact (bv (UInt8.ofNat (gexp (255 - glog x.toNat)))) rfl rfl rfl rfl rfl (fun _ _ _ _ _ => rfl) ?_
    refine RXl.exact ((Value.bool true)) rfl rfl rfl rfl rfl (fun _ _ _ _ _ => rfl) ?_
    refine RXl.nilx _ (Agr.upd _ _ (Agr.upd _ _ (Agr.upd _ _ (Agr.upd _ _ (Agr.upd _ _ (Agr.upd _ _ (Agr.upd _ _ (Agr.upd _ _ (Agr.upd _ _ (Agr.upd _ _ (Agr.upd _ _ (Agr.upd _ _ (Agr.upd _ _ (Agr.upd _ _ (Agr.base _))))))))))))))) fun w8 hJ => ?_
    obtain ⟨_, hJ⟩ := hJ
    simp only [Act.put, List.setIfInBounds_toArray, List.set_cons_succ, List.set_cons_zero]
    have S3 := Lib.hid (show St B w0 w8 (fo b true * R) from hJ)
    clear hJ S2
    go_wp2_with fail
    go_ret2
    exact ⟨rfl, true, S3.out⟩
set_option maxRecDepth 100000 in
set_option maxHeartbeats 4000000 in
theorem new_calls (w : World) (s : St B w0 w R) : Calls Try.prog 12 #[] w fun e w' => ∃ b, e = .returned (.pointer (some ⟨b, 0, none⟩)) ∧ St B w0 w' (fo b false * R) := by
  have S := Lib.hid s
  clear s
  go_enter Try.func12, Try.ntmps12
  go_wp2_with fail
  have s2 := S.out.alloc (.cells Try.zeroCells92 92)
  have e : Try.zeroCells92 = fc 0 0 0 (expL 0) (logL 0) := by rw [expL_zero]; kernel_rfl
  rw [e] at s2 ⊢
  have S2 := Lib.hid s2
  go_ret
  exact ⟨_, rfl, S2.out⟩
theorem tmod_255 (n : Int) : n.tmod 255 = if 0 ≤ n then n % 255 else -((-n) % 255) := by
  split
  · exact Int.tmod_eq_emod_of_nonneg ‹_›
  · have h : n = -(-n) := by omega
    rw [h, Int.neg_tmod, Int.tmod_eq_emod_of_nonneg (by omega), Int.neg_neg]
theorem pow_rem (n : Int) : (wrap64 (n.tmod 255 + 255)).tmod 255 = (((n % 255).toNat : Nat) : Int) := by
  have e : wrap64 (n.tmod 255 + 255) = n.tmod 255 + 255 := by
    rw [tmod_255]
    unfold wrap64
    split <;> omega
  rw [e, tmod_255 (n.tmod 255 + 255), tmod_255 n]
  split <;> split <;> omega
end
end Go.Proofs.Ytjnfhppjkadlpaa.Gf
