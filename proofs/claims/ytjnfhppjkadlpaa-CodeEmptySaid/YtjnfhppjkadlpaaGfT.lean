/- gf.Field's tables, walked. -/
import Derived.Test.YtjnfhppjkadlpaaGfM
namespace Go.Proofs.Ytjnfhppjkadlpaa.Gf
open Go Go.RowKit Go.Proofs.Ytjnfhppjkadlpaa Go.Proofs.Ytjnfhppjkadlpaa.Sp Go.Proofs.Ytjnfhppjkadlpaa.Reg Go.Proofs.Ytjnfhppjkadlpaa.GfO
section
variable {B : Nat} {w0 : World} {R : HP}
/-- The field while its tables are made. -/
def mk (b : Nat) (E : List UInt8) (L : List Nat) (pl : Nat) (R : HP) : HP := pts b (.cells (fc 0 1 0 E L) 92) * (pts pl (.cells #[.pointer (some ⟨b, 0, none⟩)] 22) * R)
theorem mixed : Try.prog.follows .mixedOrders = true := by kernel_rfl
theorem mk_p {b pl : Nat} {E : List UInt8} {L : List Nat} {w : World} (s : St B w0 w (mk b E L pl R)) : w.cell? ⟨pl, 0, none⟩ = some (.pointer (some ⟨b, 0, none⟩)) := ((show St B w0 w (pts b (.cells (fc 0 1 0 E L) 92) * (pts pl (.cells #[.pointer (some ⟨b, 0, none⟩)] 22) * R)) from s).eq (sep_left_comm _ _ _)).cell 0
theorem mk_setE {b pl : Nat} {E : List UInt8} {L : List Nat} {w : World} (s : St B w0 w (mk b E L pl R)) (j : Nat) (hj : j < E.length) (x : UInt8) :
    w.cell? ⟨b, 4 + j, none⟩ = some (bv E[j]) ∧ w.frozen? ⟨b, 4 + j, none⟩ = false ∧ St B w0 (w.setCell ⟨b, 4 + j, none⟩ (bv x)) (mk b (E.set j x) L pl R) := by
  refine ⟨(St.cell s (4 + j)).trans (fc_exp j hj), St.free s (4 + j), ?_⟩
  have q := St.set s (4 + j) (bv x)
  rw [fc_setE j x hj] at q
  exact q
theorem mk_setL {b pl : Nat} {E : List UInt8} {L : List Nat} {w : World} (s : St B w0 w (mk b E L pl R)) (hE : E.length = 510) (j : Nat) (hj : j < L.length) (n : Nat) :
    w.cell? ⟨b, 514 + j, none⟩ = some (.int .i64 (L[j] : Nat)) ∧ w.frozen? ⟨b, 514 + j, none⟩ = false ∧ St B w0 (w.setCell ⟨b, 514 + j, none⟩ (.int .i64 (n : Int))) (mk b E (L.set j n) pl R) := by
  refine ⟨(St.cell s (514 + j)).trans (fc_log j hE hj), St.free s (514 + j), ?_⟩
  have q := St.set s (514 + j) (.int .i64 (n : Int))
  rw [fc_setL j n hE hj] at q
  exact q
def EJ (k : Nat) (j : Nat) : List UInt8 := match j with
  | 0 => expL k
  | 1 => (expL k).set k (UInt8.ofNat (gexp k))
  | _ => expL (k + 1)
set_option maxRecDepth 100000 in
set_option maxHeartbeats 4000000 in
theorem fill_calls (b pl : Nat) (w : World) (s : St B w0 w (mk b (expL 0) (logL 0) pl R)) :
    Calls Try.prog 75 #[.pointer (some ⟨pl, 0, none⟩)] w fun e w' => e = .returned (.tuple #[]) ∧ St B w0 w' (pts b (.cells (fc 0 1 1 (expL 255) (logL 255)) 92) * (pts pl (.cells #[.pointer (some ⟨b, 0, none⟩)] 22) * R)) := by
  have S := Lib.hid s
  clear s
  go_enter Try.func75, Try.ntmps75
  go_wp2_with fail
  go_loopw [1, 3] (fun x i wr => ∃ k : Nat, k ≤ 255 ∧ x = .int .i64 (gexp k : Nat) ∧ i = .int .i64 k ∧ St B w0 wr (mk b (expL k) (logL k) pl R)) (fun _ i _ => 255 - (intOf i).toNat)
  case atStart => exact ⟨0, Nat.zero_le _, rfl, rfl, S.out⟩
  case round =>
    obtain ⟨k, hk, rfl, rfl, s⟩ := hrel
    clear S
    have S := Lib.hid s
    clear s
    have hg := gexp_lt k
    by_cases hlt : k < 255
    · have hv : bv (UInt8.ofNat (gexp k)) = .int .u8 (gexp k : Nat) := by
        show Value.int .u8 (((UInt8.ofNat (gexp k)).toNat : Nat) : Int) = _
        rw [UInt8.toNat_ofNat', Nat.mod_eq_of_lt hg]
      have HV := Lib.hid hv
      clear hv
      go_wp2_with fail
      have st1 : ∀ w', St B w0 w' (mk b (EJ k 0) (logL k) pl R) → w'.cell? ⟨b, 4 + k, none⟩ = some (bv ((expL k)[k]'(by rw [expL_len]; omega))) ∧ w'.frozen? ⟨b, 4 + k, none⟩ = false ∧ St B w0 (w'.setCell ⟨b, 4 + k, none⟩ (bv (UInt8.ofNat (gexp k)))) (mk b (EJ k 1) (logL k) pl R) := fun w' s => mk_setE s k (by show k < (expL k).length; rw [expL_len]; omega) _
      have st2 : ∀ w', St B w0 w' (mk b (EJ k 1) (logL k) pl R) → w'.cell? ⟨b, 4 + (k + 255), none⟩ = some (bv (((expL k).set k (UInt8.ofNat (gexp k)))[k + 255]'(by rw [List.length_set, expL_len]; omega))) ∧ w'.frozen? ⟨b, 4 + (k + 255), none⟩ = false ∧ St B w0 (w'.setCell ⟨b, 4 + (k + 255), none⟩ (bv (UInt8.ofNat (gexp k)))) (mk b (EJ k 2) (logL k) pl R) := fun w' s => by
        have h := mk_setE s (k + 255) (by show k + 255 < ((expL k).set k _).length; rw [List.length_set, expL_len]; omega) (UInt8.ofNat (gexp k))
        refine ⟨h.1, h.2.1, ?_⟩
        have q := h.2.2
        rw [show (EJ k 1).set (k + 255) (UInt8.ofNat (gexp k)) = EJ k 2 from expL_step k hlt] at q
        exact q
      refine wp_region_rx (fun j w' => St B w0 w' (mk b (EJ k j) (logL k) pl R)) [12, 16] mixed (by kernel_rfl) (by kernel_rfl) S.out.drew ?_
      refine RXl.exact (.pointer (some ⟨b, 0, none⟩)) rfl rfl rfl rfl rfl (fun j τ w' hj hJ => by have c := mk_p hJ; simp [rho, upd, Spec.val, execOp, go_sem, c]) ?_
      refine RXl.exact (.int .i64 (k : Int)) rfl rfl rfl rfl rfl (fun _ _ _ _ _ => rfl) ?_
      refine RXl.exact (.pointer (some ⟨b, 0, none⟩)) rfl rfl rfl rfl rfl (fun j τ w' hj hJ => by have c := mk_p hJ; simp [rho, upd, Spec.val, execOp, go_sem, c]) ?_
      refine RXl.exact (.int .i64 (k : Int)) rfl rfl rfl rfl rfl (fun _ _ _ _ _ => rfl) ?_
      refine RXl.exact (.int .i64 ((k + 255 : Nat) : Int)) rfl rfl rfl rfl rfl (fun j τ w' hj hJ => by simp [rho, upd, Spec.val, execOp, go_sem]; rw [IntKind.wrap_i64]; omega) ?_
      refine RXl.exact (.int .i64 (gexp k : Nat)) rfl rfl rfl rfl rfl (fun _ _ _ _ _ => rfl) ?_
      refine RXl.exact (bv (UInt8.ofNat (gexp k))) rfl rfl rfl rfl rfl (fun j τ w' hj hJ => by rw [HV.out]; simp [rho, upd, Spec.val, execOp, go_sem]; rw [IntKind.wrap_u8]; omega) ?_
      refine RXl.exact (.int .i64 (gexp k : Nat)) rfl rfl rfl rfl rfl (fun _ _ _ _ _ => rfl) ?_
      refine RXl.exact (bv (UInt8.ofNat (gexp k))) rfl rfl rfl rfl rfl (fun j τ w' hj hJ => by rw [HV.out]; simp [rho, upd, Spec.val, execOp, go_sem]; rw [IntKind.wrap_u8]; omega) ?_
      refine RXl.exact (.pointer (some ⟨b, 0, none⟩)) rfl rfl rfl rfl rfl (fun j τ w' hj hJ => by simp [rho, upd, Spec.val, execOp, go_sem]) ?_
      refine RXl.exact (.pointer (some ⟨b, 4, none⟩)) rfl rfl rfl rfl rfl (fun j τ w' hj hJ => by simp [rho, upd, Spec.val, execOp, go_sem]) ?_
      refine RXl.exact (.pointer (some ⟨b, 4 + k, none⟩)) rfl rfl rfl rfl rfl (fun j τ w' hj hJ => by simp [rho, upd, Spec.val, execOp, go_sem]; omega) ?_
      refine RXl.effj 0 rfl rfl rfl rfl rfl rfl (fun w' hJ => (let h := st1 w' hJ; ⟨_, exec_store rfl rfl rfl rfl (by kernel_rfl) h.1 h.2.1, h.2.2⟩)) ?_
      refine RXl.exact (.pointer (some ⟨b, 0, none⟩)) rfl rfl rfl rfl rfl (fun j τ w' hj hJ => by simp [rho, upd, Spec.val, execOp, go_sem]) ?_
      refine RXl.exact (.pointer (some ⟨b, 4, none⟩)) rfl rfl rfl rfl rfl (fun j τ w' hj hJ => by simp [rho, upd, Spec.val, execOp, go_sem]) ?_
      refine RXl.exact (.pointer (some ⟨b, 4 + (k + 255), none⟩)) rfl rfl rfl rfl rfl (fun j τ w' hj hJ => by have t1 : ((k : Int) + 255).toNat = k + 255 := (by omega); have t2 : (0 : Int) ≤ (k : Int) + 255 := (by omega); have t3 : (k : Int) + 255 < 510 := (by omega); simp [rho, upd, Spec.val, execOp, go_sem, t1, t2, t3]) ?_
      refine RXl.effj 1 rfl rfl rfl rfl rfl rfl (fun w' hJ => (let h := st2 w' hJ; ⟨_, exec_store rfl rfl rfl rfl (by kernel_rfl) h.1 h.2.1, h.2.2⟩)) ?_
      refine RXl.nilx _ (Agr.upd _ _ (Agr.upd _ _ (Agr.upd _ _ (Agr.upd _ _ (Agr.upd _ _ (Agr.upd _ _ (Agr.upd _ _ (Agr.upd _ _ (Agr.upd _ _ (Agr.upd _ _ (Agr.upd _ _ (Agr.upd _ _ (Agr.upd _ _ (Agr.upd _ _ (Agr.upd _ _ (Agr.base _)))))))))))))))) fun w8 hJ => ?_
      obtain ⟨_, hJ⟩ := hJ
      simp only [Act.put, List.setIfInBounds_toArray, List.set_cons_succ, List.set_cons_zero]
      have s8 : St B w0 w8 (mk b (expL (k + 1)) (logL k) pl R) := hJ
      have c0 := mk_p s8
      obtain ⟨c1, f1, hst⟩ := mk_setL s8 (expL_len _) (gexp k) (by rw [logL_len]; exact hg) k
      have HST := Lib.hid (show St B w0 (w8.setCell ⟨b, 514 + gexp k, none⟩ (.int .i64 (k : Int))) (mk b (expL (k + 1)) (logL (k + 1)) pl R) from hst)
      generalize bv_ : (logL k)[gexp k]'(by rw [logL_len]; exact hg) = old at c1
      clear st1 st2 hJ s8 hst S HV
      have d1 : (gexp k : Int) * 2 < 256 → gexp (k + 1) = 2 * gexp k := fun h => by
        show xt (gexp k) = _
        unfold xt
        rw [if_neg (by omega)]
      have d2 : 256 ≤ (gexp k : Int) * 2 → bits .xor .i64 ((gexp k : Int) * 2) 285 = (gexp (k + 1) : Nat) := fun h => by
        rw [show (gexp k : Int) * 2 = ((2 * gexp k : Nat) : Int) by omega, show (285 : Int) = ((285 : Nat) : Int) from rfl, bits_xor_i64 _ _ (by omega) (by decide)]
        show _ = ((xt (gexp k) : Nat) : Int)
        unfold xt
        rw [if_pos (by omega)]
      have D1 := Lib.hid d1
      have D2 := Lib.hid d2
      clear d1 d2
      go_wp2_with fail
      all_goals rename_i hh
      all_goals first
        | exact ⟨⟨k + 1, by omega, by rw [D2.out hh], by go_num, HST.out⟩, by simp [intOf]; omega⟩
        | exact ⟨⟨k + 1, by omega, by rw [D1.out hh]; congr 1; omega, by go_num, HST.out⟩, by simp [intOf]; omega⟩
    · obtain rfl : k = 255 := by omega
      clear hlt
      have s := S.out
      have c0 := mk_p s
      have c3 := (St.cell s 3).trans fc_3
      have hadd := run_call_add (P := Try.prog) Try.func95 (by kernel_rfl) (by kernel_rfl) (by kernel_rfl) .i64 (by kernel_rfl) (y := 1) (s := 1) c3 (St.free s 3) (by simp [go_sem]; rfl)
      have HST := Lib.hid (St.set s 3 (.int .i64 1))
      clear s c3 S
      go_wp2_with (go_at_call 76; go_in)
      go_end0
      refine ⟨rfl, ?_⟩
      have q := HST.out
      rw [fc_set3] at q
      exact q
/-- A field, its tables made or not. -/
def fo (b : Nat) (m : Bool) : HP := pts b (.cells (if m then fc 1 0 1 (expL 255) (logL 255) else fc 0 0 0 (expL 0) (logL 0)) 92)
set_option maxRecDepth 100000 in
set_option maxHeartbeats 4000000 in
theorem tables_calls (b : Nat) (m : Bool) (w : World) (s : St B w0 w (fo b m * R)) :
    Calls Try.prog 61 #[.pointer (some ⟨b, 0, none⟩)] w fun e w' => e = .returned (.tuple #[]) ∧ St B w0 w' (fo b true * R) := by
  have hmf : ∀ (fn : Fn) (first cap : Array Value) (w : World), (Instr.makeFunc fn first cap).run Try.prog w = .ok (.func fn first cap) w := fun _ _ _ _ => rfl
  have s1 := s.alloc (.cells #[.pointer (some ⟨b, 0, none⟩)] 22)
  have c0 := s1.cell 0
  have s2 := s1.eq (sep_left_comm _ _ _)
  have S2 := Lib.hid s2
  clear s s1 s2
  simp at c0
  cases m with
  | true =>
    have HD := Lib.hid (do_done ⟨b, 0, none⟩ 1 (by decide) (.func (.func 75) #[] #[.pointer (some ⟨w.heap.size, 0, none⟩)]) _ ((St.cell S2.out 0).trans fc_0))
    go_enter Try.func61, Try.ntmps61
    go_wp2_with fail
    refine HD.out.mono ?_
    rintro e w2 ⟨rfl, rfl⟩
    have HE := Lib.hid ((St.eq (sep_left_comm _ _ _) S2.out).right)
    clear HD S2
    go_wp2_with fail
    go_end0
    exact ⟨rfl, HE.out⟩
  | false =>
    have HD := Lib.hid (do_first b 92 (fc 0 0 0 (expL 0) (logL 0)) (fc 0 1 1 (expL 255) (logL 255)) 75 #[.pointer (some ⟨w.heap.size, 0, none⟩)] (.int .u32 0) (pts w.heap.size (.cells #[.pointer (some ⟨b, 0, none⟩)] 22) * R) _ fc_0 fc_1 fc_0 fc_1 (fun _ => rfl) (fun w1 s => by rw [fc_set1] at s; exact fill_calls b w.heap.size w1 s) S2.out)
    go_enter Try.func61, Try.ntmps61
    go_wp2_with fail
    refine HD.out.mono ?_
    rintro e w2 ⟨rfl, s3⟩
    rw [fc_set0, fc_set1] at s3
    have HE := Lib.hid ((s3.eq (sep_left_comm _ _ _)).right)
    clear HD S2 s3
    go_wp2_with fail
    go_end0
    exact ⟨rfl, HE.out⟩
end
end Go.Proofs.Ytjnfhppjkadlpaa.Gf
