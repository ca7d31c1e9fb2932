/- Package trio, walked: alike, joined; slices.Clone of rows. No condition. -/
import Derived.Test.YtkkkncchinejmaaTrS
namespace Go.Proofs.Ytkkkncchinejmaa.TrW
open Go Go.RowKit Go.Proofs.Ytkkkncchinejmaa Go.Proofs.Ytkkkncchinejmaa.Sp Go.Proofs.Ytkkkncchinejmaa.Reg Go.Proofs.Ytkkkncchinejmaa.SlW Go.Proofs.Ytkkkncchinejmaa.Fus Go.Proofs.Ytkkkncchinejmaa.TrM
open Go.Proofs.Ytkkkncchinejmaa.TapW (Reads reads_arg)
/-- How many rows are alike: told, and memory added at most. -/
def AlP (w : World) (l1 l2 : List (List UInt8)) (e : Ending) (w' : World) : Prop := e = .returned (.int .i64 (al l1 l2)) ∧ Add w w'
set_option maxRecDepth 100000 in
set_option maxHeartbeats 4000000 in
theorem alike_calls (v1 v2 : Value) (l1 l2 : List (List UInt8)) (w : World) (h1 : BSS w v1 l1) (h2 : BSS w v2 l2) :
    Calls Try.prog 47 #[v1, v2] w (AlP w l1 l2) := by
  obtain ⟨A1, c1, vs1, rfl, -⟩ := id h1
  obtain ⟨A2, c2, vs2, rfl, -⟩ := id h2
  obtain ⟨-, h11, h12, -, us1, h13, h14, h15⟩ := h1.open'
  obtain ⟨-, h21, h22, -, us2, h23, h24, h25⟩ := h2.open'
  unfold maxLen at h12 h22
  have H13 := Lib.hid h13
  have H23 := Lib.hid h23
  have H14 := Lib.hid h14
  have H24 := Lib.hid h24
  have H15 := Lib.hid h15
  have H25 := Lib.hid h25
  clear h13 h23 h14 h24 h15 h25
  clear h1 h2
  go_enter Try.func47, Try.ntmps47
  go_wp2_with fail
  go_loopw [5] (fun i wr => ∃ n : Nat, n ≤ al l1 l2 ∧ i = .int .i64 n ∧ Add w wr) (fun i _ => l1.length - (intOf i).toNat)
  case atStart => exact ⟨0, Nat.zero_le _, rfl, Add.refl w⟩
  case round =>
    obtain ⟨n, hn, rfl, hadd⟩ := hrel
    have hal := al_le l1 l2
    have hm := fun w : World => run_min2 (P := Try.prog) w .i64 #[3, 3] 3 l1.length l2.length
    have hmn : min (l1.length : Int) (l2.length : Int) = ((min l1.length l2.length : Nat) : Int) := by omega
    rw [hmn] at hm
    by_cases hlt : n < l1.length ∧ n < l2.length
    · obtain ⟨hlt1, hlt2⟩ := hlt
      obtain ⟨u1, hu1, hb1⟩ := H15.out n hlt1
      obtain ⟨u2, hu2, hb2⟩ := H25.out n hlt2
      have hne1 : us1 ≠ [] := by rintro rfl; simp at hu1
      have hne2 : us2 ≠ [] := by rintro rfl; simp at hu2
      obtain ⟨b1, o1, rfl, hc1⟩ := H13.out.at hne1
      obtain ⟨b2, o2, rfl, hc2⟩ := H23.out.at hne2
      have d1 : ∀ w', Add w w' → w'.cell? ⟨b1, o1 + n, none⟩ = some u1 := fun w' ha => by
        have q := hc1 n u1 hu1
        rw [World.cell?_of_block (w := w) (ha.block b1 (World.block_lt_of_cell? w ⟨b1, o1 + n, none⟩ q))]
        exact q
      have d2 : ∀ w', Add w w' → w'.cell? ⟨b2, o2 + n, none⟩ = some u2 := fun w' ha => by
        have q := hc2 n u2 hu2
        rw [World.cell?_of_block (w := w) (ha.block b2 (World.block_lt_of_cell? w ⟨b2, o2 + n, none⟩ q))]
        exact q
      have hmin : min l1.length l2.length = min l1.length l2.length := rfl
      have hlm : n < min l1.length l2.length := by omega
      have hq : ∀ w', Add w w' → Calls Try.prog 45 #[u1, u2] w' fun e w2 => e = .returned (.bool (decide (l1[n] = l2[n]))) ∧ Add w' w2 := fun w' ha =>
        (equal_calls u1 u2 _ _ w' (hb1.below ha) (hb2.below ha)).mono fun _ _ ⟨h1, h2⟩ => ⟨h1, h2 ▸ Add.refl _⟩
      have hstep : l1[n] = l2[n] → n + 1 ≤ al l1 l2 := al_step hn hlt1 hlt2
      have hstop : l1[n] ≠ l2[n] → al l1 l2 = n := fun h => al_stop hn fun _ _ => h
      have Hadd := Lib.hid hadd
      have D1 := Lib.hid d1
      have D2 := Lib.hid d2
      have Hm := Lib.hid hm
      have Hq := Lib.hid hq
      have Hstep := Lib.hid hstep
      have Hstop := Lib.hid hstop
      clear hadd d1 d2 hm hq hstep hstop
      generalize min l1.length l2.length = mn at *
      generalize l1[n] = x1 at *
      generalize l2[n] = x2 at *
      have hml : (n : Int) < (mn : Int) := by omega
      clear hlm hmin hmn hb1 hb2 hu1 hu2 hc1 hc2 H15 H25 hne1 hne2 hal
      by_cases he : x1 = x2
      · have hd : decide (x1 = x2) = true := decide_eq_true he
        have hn1 := Hstep.out he
        have Hd := Lib.hid hd
        have Hn1 := Lib.hid hn1
        clear hd hn1
        clear he
        go_wp2_with fail
        refine wp_region_rx (fun _ w' => Add w w') [] mixed (by kernel_rfl) (by kernel_rfl) (Hadd.out.trans (Add.drew _)) ?_
        refine RXl.exact (.int .i64 n) rfl rfl rfl rfl rfl (fun _ _ _ _ _ => rfl) ?_
        refine RXl.exact (.slice (some ⟨b1, o1, none⟩) l1.length c1) rfl rfl rfl rfl rfl (fun _ _ _ _ _ => rfl) ?_
        refine RXl.exact (.int .i64 l1.length) rfl rfl rfl rfl rfl (fun j τ w' hj hJ => by simp [rho, upd, Spec.val, execOp, go_sem]) ?_
        refine RXl.exact (.slice (some ⟨b2, o2, none⟩) l2.length c2) rfl rfl rfl rfl rfl (fun _ _ _ _ _ => rfl) ?_
        refine RXl.exact (.int .i64 l2.length) rfl rfl rfl rfl rfl (fun j τ w' hj hJ => by simp [rho, upd, Spec.val, execOp, go_sem]) ?_
        refine RXl.exact (.int .i64 mn) rfl rfl rfl rfl rfl (fun j τ w' hj hJ => by have c := Hm.out w'; simp [rho, upd, Spec.val, execOp, go_sem, resolve, invoke, builtin, c]) ?_
        refine RXl.exact (.bool true) rfl rfl rfl rfl rfl (fun j τ w' hj hJ => by simp [rho, upd, Spec.val, execOp, go_sem, hml]) ?_
        refine RXl.exact (.bool true) rfl rfl rfl rfl rfl (fun _ _ _ _ _ => rfl) ?_
        refine RXl.exact (.slice (some ⟨b1, o1, none⟩) l1.length c1) rfl rfl rfl rfl rfl (fun _ _ _ _ _ => rfl) ?_
        refine RXl.exact (.int .i64 n) rfl rfl rfl rfl rfl (fun _ _ _ _ _ => rfl) ?_
        refine RXl.exact (.pointer (some ⟨b1, o1 + n, none⟩)) rfl rfl rfl rfl rfl (fun j τ w' hj hJ => by have t1 : (n : Int) < (l1.length : Int) := (by omega); simp [rho, upd, Spec.val, execOp, go_sem, t1]) ?_
        refine RXl.exact (u1) rfl rfl rfl rfl rfl (fun j τ w' hj hJ => by have c := D1.out w' hJ; simp [rho, upd, Spec.val, execOp, go_sem, c]) ?_
        refine RXl.exact (.slice (some ⟨b2, o2, none⟩) l2.length c2) rfl rfl rfl rfl rfl (fun _ _ _ _ _ => rfl) ?_
        refine RXl.exact (.int .i64 n) rfl rfl rfl rfl rfl (fun _ _ _ _ _ => rfl) ?_
        refine RXl.exact (.pointer (some ⟨b2, o2 + n, none⟩)) rfl rfl rfl rfl rfl (fun j τ w' hj hJ => by have t1 : (n : Int) < (l2.length : Int) := (by omega); simp [rho, upd, Spec.val, execOp, go_sem, t1]) ?_
        refine RXl.exact (u2) rfl rfl rfl rfl rfl (fun j τ w' hj hJ => by have c := D2.out w' hJ; simp [rho, upd, Spec.val, execOp, go_sem, c]) ?_
        refine RXl.callr (.bool true) _ [u1, u2] [.tmp 17, .tmp 21] _ rfl rfl rfl rfl rfl rfl (fun _ => rfl) (fun j τ w' hj hJ => (Hq.out w' hJ).mono fun _ _ ⟨h1, h2⟩ => ⟨by rw [h1, Hd.out], hJ.trans h2⟩) ?_
        refine RXl.exact (.bool true) rfl rfl rfl rfl rfl (fun _ _ _ _ _ => rfl) ?_
        refine RXl.nilx _ (Agr.upd _ _ (Agr.upd _ _ (Agr.upd _ _ (Agr.upd _ _ (Agr.upd _ _ (Agr.upd _ _ (Agr.upd _ _ (Agr.upd _ _ (Agr.upd _ _ (Agr.upd _ _ (Agr.upd _ _ (Agr.upd _ _ (Agr.upd _ _ (Agr.upd _ _ (Agr.upd _ _ (Agr.upd _ _ (Agr.upd _ _ (Agr.upd _ _ (Agr.base _))))))))))))))))))) fun w3 hJ => ?_
        obtain ⟨_, hJ⟩ := hJ
        simp only [Act.put, List.setIfInBounds_toArray, List.set_cons_succ, List.set_cons_zero]
        go_wp2_with fail
        go_roundw
        case rel => exact ⟨n + 1, Hn1.out, by go_num, hJ⟩
        case measure => simp [intOf]; omega
      · have hd : decide (x1 = x2) = false := decide_eq_false he
        have hn1 := Hstop.out he
        have Hd := Lib.hid hd
        have Hn1 := Lib.hid hn1
        clear hd hn1
        clear he
        go_wp2_with fail
        refine wp_region_rx (fun _ w' => Add w w') [] mixed (by kernel_rfl) (by kernel_rfl) (Hadd.out.trans (Add.drew _)) ?_
        refine RXl.exact (.int .i64 n) rfl rfl rfl rfl rfl (fun _ _ _ _ _ => rfl) ?_
        refine RXl.exact (.slice (some ⟨b1, o1, none⟩) l1.length c1) rfl rfl rfl rfl rfl (fun _ _ _ _ _ => rfl) ?_
        refine RXl.exact (.int .i64 l1.length) rfl rfl rfl rfl rfl (fun j τ w' hj hJ => by simp [rho, upd, Spec.val, execOp, go_sem]) ?_
        refine RXl.exact (.slice (some ⟨b2, o2, none⟩) l2.length c2) rfl rfl rfl rfl rfl (fun _ _ _ _ _ => rfl) ?_
        refine RXl.exact (.int .i64 l2.length) rfl rfl rfl rfl rfl (fun j τ w' hj hJ => by simp [rho, upd, Spec.val, execOp, go_sem]) ?_
        refine RXl.exact (.int .i64 mn) rfl rfl rfl rfl rfl (fun j τ w' hj hJ => by have c := Hm.out w'; simp [rho, upd, Spec.val, execOp, go_sem, resolve, invoke, builtin, c]) ?_
        refine RXl.exact (.bool true) rfl rfl rfl rfl rfl (fun j τ w' hj hJ => by simp [rho, upd, Spec.val, execOp, go_sem, hml]) ?_
        refine RXl.exact (.bool true) rfl rfl rfl rfl rfl (fun _ _ _ _ _ => rfl) ?_
        refine RXl.exact (.slice (some ⟨b1, o1, none⟩) l1.length c1) rfl rfl rfl rfl rfl (fun _ _ _ _ _ => rfl) ?_
        refine RXl.exact (.int .i64 n) rfl rfl rfl rfl rfl (fun _ _ _ _ _ => rfl) ?_
        refine RXl.exact (.pointer (some ⟨b1, o1 + n, none⟩)) rfl rfl rfl rfl rfl (fun j τ w' hj hJ => by have t1 : (n : Int) < (l1.length : Int) := (by omega); simp [rho, upd, Spec.val, execOp, go_sem, t1]) ?_
        refine RXl.exact (u1) rfl rfl rfl rfl rfl (fun j τ w' hj hJ => by have c := D1.out w' hJ; simp [rho, upd, Spec.val, execOp, go_sem, c]) ?_
        refine RXl.exact (.slice (some ⟨b2, o2, none⟩) l2.length c2) rfl rfl rfl rfl rfl (fun _ _ _ _ _ => rfl) ?_
        refine RXl.exact (.int .i64 n) rfl rfl rfl rfl rfl (fun _ _ _ _ _ => rfl) ?_
        refine RXl.exact (.pointer (some ⟨b2, o2 + n, none⟩)) rfl rfl rfl rfl rfl (fun j τ w' hj hJ => by have t1 : (n : Int) < (l2.length : Int) := (by omega); simp [rho, upd, Spec.val, execOp, go_sem, t1]) ?_
        refine RXl.exact (u2) rfl rfl rfl rfl rfl (fun j τ w' hj hJ => by have c := D2.out w' hJ; simp [rho, upd, Spec.val, execOp, go_sem, c]) ?_
        refine RXl.callr (.bool false) _ [u1, u2] [.tmp 17, .tmp 21] _ rfl rfl rfl rfl rfl rfl (fun _ => rfl) (fun j τ w' hj hJ => (Hq.out w' hJ).mono fun _ _ ⟨h1, h2⟩ => ⟨by rw [h1, Hd.out], hJ.trans h2⟩) ?_
        refine RXl.exact (.bool false) rfl rfl rfl rfl rfl (fun _ _ _ _ _ => rfl) ?_
        refine RXl.nilx _ (Agr.upd _ _ (Agr.upd _ _ (Agr.upd _ _ (Agr.upd _ _ (Agr.upd _ _ (Agr.upd _ _ (Agr.upd _ _ (Agr.upd _ _ (Agr.upd _ _ (Agr.upd _ _ (Agr.upd _ _ (Agr.upd _ _ (Agr.upd _ _ (Agr.upd _ _ (Agr.upd _ _ (Agr.upd _ _ (Agr.upd _ _ (Agr.upd _ _ (Agr.base _))))))))))))))))))) fun w3 hJ => ?_
        obtain ⟨_, hJ⟩ := hJ
        simp only [Act.put, List.setIfInBounds_toArray, List.set_cons_succ, List.set_cons_zero]
        go_wp2_with fail
        go_ret
        exact ⟨by rw [Hn1.out]; rfl, hJ⟩
    · have hn1 : al l1 l2 = n := al_stop hn fun h1 h2 => absurd ⟨h1, h2⟩ hlt
      generalize hmn2 : min l1.length l2.length = mn at *
      have hml : ¬ (n : Int) < (mn : Int) := by omega
      have Hn1 := Lib.hid hn1
      have Hadd := Lib.hid hadd
      have Hm := Lib.hid hm
      have Hmn := Lib.hid hmn
      clear hn1 hadd hm hmn
      clear hlt hmn2 hal
      go_wp2_with fail
      refine wp_region_rx (fun _ w' => Add w w') [] mixed (by kernel_rfl) (by kernel_rfl) (Hadd.out.trans (Add.drew _)) ?_
      refine RXl.exact (.int .i64 n) rfl rfl rfl rfl rfl (fun _ _ _ _ _ => rfl) ?_
      refine RXl.exact (.slice A1 l1.length c1) rfl rfl rfl rfl rfl (fun _ _ _ _ _ => rfl) ?_
      refine RXl.exact (.int .i64 l1.length) rfl rfl rfl rfl rfl (fun j τ w' hj hJ => by simp [rho, upd, Spec.val, execOp, go_sem]) ?_
      refine RXl.exact (.slice A2 l2.length c2) rfl rfl rfl rfl rfl (fun _ _ _ _ _ => rfl) ?_
      refine RXl.exact (.int .i64 l2.length) rfl rfl rfl rfl rfl (fun j τ w' hj hJ => by simp [rho, upd, Spec.val, execOp, go_sem]) ?_
      refine RXl.exact (.int .i64 mn) rfl rfl rfl rfl rfl (fun j τ w' hj hJ => by have c := Hm.out w'; simp [rho, upd, Spec.val, execOp, go_sem, resolve, invoke, builtin, c]) ?_
      refine RXl.exact (.bool false) rfl rfl rfl rfl rfl (fun j τ w' hj hJ => by simp [rho, upd, Spec.val, execOp, go_sem]; omega) ?_
      refine RXl.exact (.bool false) rfl rfl rfl rfl rfl (fun _ _ _ _ _ => rfl) ?_
      refine RXl.skip rfl rfl rfl rfl ?_
      refine RXl.skip rfl rfl rfl rfl ?_
      refine RXl.skip rfl rfl rfl rfl ?_
      refine RXl.skip rfl rfl rfl rfl ?_
      refine RXl.skip rfl rfl rfl rfl ?_
      refine RXl.skip rfl rfl rfl rfl ?_
      refine RXl.skip rfl rfl rfl rfl ?_
      refine RXl.skip rfl rfl rfl rfl ?_
      refine RXl.skip rfl rfl rfl rfl ?_
      refine RXl.exact ((Value.bool false)) rfl rfl rfl rfl rfl (fun _ _ _ _ _ => rfl) ?_
      refine RXl.nilx _ (Agr.upd _ _ (Agr.upd _ _ (Agr.upd _ _ (Agr.upd _ _ (Agr.upd _ _ (Agr.upd _ _ (Agr.upd _ _ (Agr.upd _ _ (Agr.upd _ _ (Agr.upd _ _ (Agr.upd _ _ (Agr.upd _ _ (Agr.upd _ _ (Agr.upd _ _ (Agr.upd _ _ (Agr.upd _ _ (Agr.upd _ _ (Agr.upd _ _ (Agr.base _))))))))))))))))))) fun w3 hJ => ?_
      obtain ⟨_, hJ⟩ := hJ
      simp only [Act.put, List.setIfInBounds_toArray, List.set_cons_succ, List.set_cons_zero]
      go_wp2_with fail
      go_ret
      exact ⟨by rw [Hn1.out]; rfl, hJ⟩
/-- Rows that can be read wherever these are owned: their heads. -/
structure BRd (B : Nat) (w0 : World) (R : HP) (v : Value) (vs : List Value) (l : List (List UInt8)) : Prop where
  val : ∃ A c, v = .slice A l.length c ∧ l.length ≤ c ∧ c ≤ maxLen ∧ (A = none → c = 0) ∧ ∀ w H, St B w0 w (H * R) → Rd w A vs
  len : vs.length = l.length
  at' : ∀ w H, St B w0 w (H * R) → ∀ i (h : i < l.length), ∃ u, vs[i]? = some u ∧ BS w u l[i]
section
variable {B : Nat} {w0 : World} {R X : HP} {v : Value} {vs : List Value} {l : List (List UInt8)}
theorem BRd.bss (h : BRd B w0 R v vs l) {w : World} {H : HP} (s : St B w0 w (H * R)) : BSS w v l := by
  obtain ⟨A, c, e, h1, h2, h3, h4⟩ := h.val
  exact ⟨A, c, vs, e, h4 w H s, h.len.symm, h1, h2, h3, h.at' w H s⟩
theorem BRd.right (X : HP) (h : BRd B w0 R v vs l) : BRd B w0 (R * X) v vs l := by
  obtain ⟨A, c, e, h1, h2, h3, h4⟩ := h.val
  exact ⟨⟨A, c, e, h1, h2, h3, fun w H s => h4 w (H * X) (s.eq (by ac_rfl))⟩, h.len, fun w H s => h.at' w (H * X) (s.eq (by ac_rfl))⟩
theorem BRd.left (X : HP) (h : BRd B w0 R v vs l) : BRd B w0 (X * R) v vs l := by
  rw [sep_comm]
  exact h.right X
theorem BRd.nil : BRd B w0 R (.slice none 0 0) [] [] :=
  ⟨⟨none, 0, rfl, Nat.le_refl _, Nat.zero_le _, fun _ => rfl, fun _ _ _ => .nil _ _⟩, rfl, fun _ _ _ i h => absurd h (Nat.not_lt_zero i)⟩
theorem rows_at_bs {w : World} {e : TypeId} {vs : List Value} {l : List (List UInt8)} (hl : vs.length = l.length) (s : St B w0 w (rows e vs l * R)) (i : Nat) (h : i < l.length) : ∃ u, vs[i]? = some u ∧ BS w u l[i] := St.rowsBS vs l s hl i h
theorem ob_brd (hl : vs.length = l.length) {a : Option Addr} {c : Nat} (hv : v = .slice a l.length c) (h1 : l.length ≤ c) (h2 : c ≤ maxLen) (h3 : a = none → c = 0) : BRd B w0 (ob v vs l) v vs l := by
  subst hv
  refine ⟨⟨a, c, rfl, h1, h2, h3, fun w H s => ?_⟩, hl, fun w H s i h => ?_⟩
  · unfold ob at s
    exact (St.eq (Q := row 23 1 (.slice a l.length c) l.length vs * (rows 5 vs l * H)) (by ac_rfl) s).rowRd
  · unfold ob at s
    exact rows_at_bs hl (St.eq (Q := rows 5 vs l * (row 23 1 (.slice a l.length c) l.length vs * H)) (by ac_rfl) s) i h
theorem ob_open {w : World} (s : St B w0 w (ob v vs l * R)) : ∃ a c, v = .slice a l.length c ∧ l.length ≤ c ∧ c ≤ maxLen ∧ (a = none → c = 0) := by
  unfold ob at s
  obtain ⟨a, c, h1, h2, h3, h4, -⟩ := St.rowSlice (St.eq (Q := row 23 1 v l.length vs * (rows 5 vs l * R)) (by ac_rfl) s)
  exact ⟨a, c, h1, h2, h3, h4⟩
/-- a[:k:k]. -/
theorem BRd.take (h : BRd B w0 R v vs l) (k : Nat) (hk : k ≤ l.length) : ∃ A c, v = .slice A l.length c ∧ k ≤ c ∧ (∀ w, (Instr.sliceAt 22 v none (some (.int .i64 (k : Int))) (some (.int .i64 (k : Int)))).run Try.prog w = .ok (.slice A k k) w) ∧ BRd B w0 R (.slice A k k) (vs.take k) (l.take k) := by
  obtain ⟨A, c, e, h1, h2, h3, h4⟩ := h.val
  subst e
  have hlk : (l.take k).length = k := by rw [List.length_take]; omega
  refine ⟨A, c, rfl, by omega, fun w => run_slice_hm' tBB w A l.length c k .i64 .i64 (by omega), ⟨A, k, by rw [hlk], by omega, by omega, fun e => by have := h3 e; omega, fun w H s => ?_⟩, ?_, fun w H s i hi => ?_⟩
  · have q := (h4 w H s).sub 0 k A (fun _ => by cases A <;> simp [Addr.add])
    simpa using q
  · rw [List.length_take, List.length_take, h.len]
  · rw [hlk] at hi
    obtain ⟨u, h5, h6⟩ := h.at' w H s i (by omega)
    refine ⟨u, by rw [List.getElem?_take, if_pos hi]; exact h5, ?_⟩
    rw [List.getElem_take]
    exact h6
/-- a[:k]. -/
theorem BRd.take' (h : BRd B w0 R v vs l) (k : Nat) (hk : k ≤ l.length) : ∃ A c, v = .slice A l.length c ∧ k ≤ c ∧ (∀ w, (Instr.sliceAt 22 v none (some (.int .i64 (k : Int))) none).run Try.prog w = .ok (.slice A k c) w) ∧ BRd B w0 R (.slice A k c) (vs.take k) (l.take k) := by
  obtain ⟨A, c, e, h1, h2, h3, h4⟩ := h.val
  subst e
  have hlk : (l.take k).length = k := by rw [List.length_take]; omega
  refine ⟨A, c, rfl, by omega, fun w => ?_, ⟨A, c, by rw [hlk], by omega, by omega, h3, fun w H s => ?_⟩, ?_, fun w H s i hi => ?_⟩
  · have q := run_slice_sl tBB w A l.length c none (some (.int .i64 (k : Int))) 0 k (.inl ⟨rfl, rfl⟩) (.inr ⟨_, rfl⟩) (Nat.zero_le _) (by omega)
    rw [q]
    cases A <;> simp [Addr.add]
  · have q := (h4 w H s).sub 0 k A (fun _ => by cases A <;> simp [Addr.add])
    simpa using q
  · rw [List.length_take, List.length_take, h.len]
  · rw [hlk] at hi
    obtain ⟨u, h5, h6⟩ := h.at' w H s i (by omega)
    refine ⟨u, by rw [List.getElem?_take, if_pos hi]; exact h5, ?_⟩
    rw [List.getElem_take]
    exact h6
theorem tB1 : SlT Try.prog 23 5 1 1 (.int .u8 0) := tB
theorem jn_le_len {l : List (List UInt8)} (k : Nat) (h : k < l.length) : (jn (l.take k)).length + (l[k].length + 1) ≤ (jn l).length := by
  have e : jn l = jn (l.take k) ++ (jn1 l[k] ++ jn (l.drop (k + 1))) := by
    rw [← jn_cons, ← List.drop_eq_getElem_cons h, ← jn_append, List.take_append_drop]
  rw [e, List.length_append, List.length_append, jn1_len]
  omega
theorem ofNat_bv (n : Nat) (h : n ≤ 250) : bv (UInt8.ofNat n) = .int .u8 (n : Int) := by
  show Value.int .u8 ((UInt8.ofNat n).toNat : Int) = _
  rw [UInt8.toNat_ofNat', Nat.mod_eq_of_lt (by omega)]
set_option maxRecDepth 100000 in
set_option maxHeartbeats 4000000 in
theorem joined_calls (h : BRd B w0 R v vs l) (hok : ∀ r ∈ l, okr r) (hn : (jn l).length ≤ 1000000) (w : World) (s : St B w0 w R) : Calls Try.prog 44 #[v] w (RetN B w0 R (jn l)) := by
  have HH := Lib.hid h
  have HOK := Lib.hid hok
  obtain ⟨A, c, rfl, h1, h2, h3, h4⟩ := h.val
  have hle : l.length ≤ (jn l).length := by
    clear h HH HOK h1 h2 h3 h4 hn hok s
    induction l with
    | nil => exact Nat.le_refl _
    | cons a l ih => rw [jn_cons, List.length_append, jn1_len, List.length_cons]; omega
  unfold maxLen at h2
  have S := Lib.hid s
  have H3 := Lib.hid h3
  have H4 := Lib.hid h4
  clear s h3 h4
  clear h hok
  go_enter Try.func44, Try.ntmps44
  go_wp2_with fail
  go_loopw [3, 8] (fun v3 i wr => ∃ (k : Nat) (a2 : Option Addr) (c2 : Nat), k ≤ l.length ∧ i = .int .i64 k ∧ v3 = .slice a2 (jn (l.take k)).length c2 ∧ St B w0 wr (row 5 1 (.slice a2 (jn (l.take k)).length c2) (jn (l.take k)).length (bvs (jn (l.take k))) * R)) (fun _ i _ => l.length - (intOf i).toNat)
  case atStart => exact ⟨0, none, 0, Nat.zero_le _, rfl, rfl, S.out.rowNil _ _⟩
  case round =>
    obtain ⟨k, a2, c2, hk, rfl, rfl, s1⟩ := hrel
    clear S
    by_cases hlt : k < l.length
    · obtain ⟨u, hu, hb⟩ := HH.out.at' wr _ s1 k hlt
      have hne : vs ≠ [] := by rintro rfl; simp at hu
      obtain ⟨b1, o1, rfl, hc⟩ := (H4.out wr _ s1).at hne
      have hcell := hc k u hu
      obtain ⟨ax, cx, rfl, -⟩ := id hb
      have hrd : ∀ w H, St B w0 w (H * R) → BS w (.slice ax l[k].length cx) l[k] := fun w H s => by
        obtain ⟨u', h5, h6⟩ := HH.out.at' w H s k hlt
        rw [hu] at h5
        cases h5
        exact h6
      have hr := HOK.out l[k] (List.getElem_mem hlt)
      obtain ⟨hr1, hr2⟩ := id hr
      have hjl := jn_le_len k hlt
      have e1 : jn (l.take (k + 1)) = (jn (l.take k) ++ [UInt8.ofNat l[k].length]) ++ l[k] := by
        rw [List.take_succ_eq_append_getElem hlt, jn_append, jn_one, jn1]; simp
      have hbv := ofNat_bv l[k].length hr2
      have hlt2 : (k : Int) < (l.length : Int) := by omega
      generalize hP : l[k] = P at *
      generalize hJ : jn (l.take k) = J at *
      have s2 := s1.alloc (.cells #[.int .u8 (P.length : Int)] 5)
      have S2 := Lib.hid (St.eq (Q := row 5 1 (.slice a2 J.length c2) J.length (bvs J) * (pts wr.heap.size (.cells #[.int .u8 (P.length : Int)] 5) * R)) (by ac_rfl) s2)
      have hbs : BS (wr.alloc (.cells #[.int .u8 (P.length : Int)] 5)) (.slice (some ⟨wr.heap.size, 0, none⟩) 1 1) [UInt8.ofNat P.length] := by
        have q := BS.lit wr [UInt8.ofNat P.length] 5 (0, 0) (by simp [maxLen])
        simp only [bvs, List.map_cons, List.map_nil, hbv] at q
        exact q
      have HBS := Lib.hid hbs
      have HBV := Lib.hid hbv
      have E := Lib.hid e1
      have hP0 : (0 : Int) ≤ (P.length : Int) := by omega
      have hP9 : (P.length : Int) ≤ 250 := by omega
      have HP := Lib.hid hP
      have HJ := Lib.hid hJ
      have Hrd := Lib.hid hrd
      clear hP hJ hrd
      clear hbs hbv e1 s1 s2 hb hu hc hr hne hr1
      go_wp2_with (at_builtin; first
        | (((have q := S2); clear q); go_must (refine wpl_appendB rfl _ _ rfl tB S2.out (some ⟨wr.heap.size, 0, none⟩) 1 1 HBS.out rfl rfl (by simp only [List.length_singleton]; omega) ?_); intro a3 c3 w3 s3; have HB3 := Lib.hid (Hrd.out w3 (row 5 1 (.slice a3 (J ++ [UInt8.ofNat P.length]).length c3) (J ++ [UInt8.ofNat P.length]).length (bvs (J ++ [UInt8.ofNat P.length])) * pts wr.heap.size (.cells #[.int .u8 (P.length : Int)] 5)) (s3.eq (sep_assoc _ _ _).symm)); have S3 := Lib.hid s3; clear s3 S2)
        | (((have q := S3); clear q); go_must (refine wpl_appendB rfl _ _ rfl tB S3.out ax P.length cx HB3.out (by rw [List.length_append]; rfl) rfl (by simp only [List.length_append, List.length_singleton]; omega) ?_); intro a4 c4 w4 s4; rw [← E.out] at s4; rw [← E.out]; have S4 := Lib.hid s4; clear s4 S3))
      go_roundw
      case rel => exact ⟨k + 1, a4, c4, by omega, by go_num, rfl, (S4.out.eq (sep_left_comm _ _ _)).right⟩
      case measure => simp [intOf]; omega
    · obtain rfl : k = l.length := by omega
      rw [List.take_length] at s1
      have S1 := Lib.hid s1
      clear s1
      rw [List.take_length]
      go_wp2_with fail
      go_ret
      exact ⟨a2, c2, rfl, S1.out⟩
set_option maxHeartbeats 400000 in
theorem sclone_calls (h : BRd B w0 R v vs l) (hn : l.length ≤ 1000000) (w : World) (s : St B w0 w R) : Calls Try.prog 48 #[v] w (fun e w' => ∃ v', e = .returned v' ∧ St B w0 w' (row 23 1 v' l.length vs * R) ∧ BRd B w0 (row 23 1 v' l.length vs * R) v' vs l) := by
  have HH := Lib.hid h
  obtain ⟨A, c, rfl, h1, h2, h3, h4⟩ := h.val
  have heq := fun (w : World) (a : Option Addr) (n c : Nat) => Lib.run_eql_slice_nil (P := Try.prog) w 22 23 a n c 0 0 Try.underlying22
  have hlen := h.len
  unfold maxLen at h2
  have S := Lib.hid s
  have H4 := Lib.hid h4
  have Hlen := Lib.hid hlen
  clear s h4 hlen
  clear h
  have fin : ∀ v' w', St B w0 w' (row 23 1 v' l.length vs * R) → BRd B w0 (row 23 1 v' l.length vs * R) v' vs l := fun v' w' s => by
    obtain ⟨a, c, rfl, h1, h2, h3, -⟩ := s.rowSlice
    refine ⟨⟨a, c, rfl, h1, h2, h3, fun w H s => ?_⟩, Hlen.out, fun w H s => HH.out.at' w (H * row 23 1 (.slice a l.length c) l.length vs) (s.eq (sep_assoc _ _ _).symm)⟩
    exact (s.eq (sep_left_comm _ _ _)).rowRd
  have FIN := Lib.hid fin
  clear fin
  cases A with
  | none =>
    obtain rfl : c = 0 := h3 rfl
    obtain rfl : l = [] := List.eq_nil_of_length_eq_zero (by omega)
    obtain rfl : vs = [] := List.eq_nil_of_length_eq_zero Hlen.out
    go_enter Try.func48, Try.ntmps48
    go_wp2_with fail
    go_ret
    have s2 := S.out.rowNil 23 1
    exact ⟨_, rfl, s2, FIN.out _ _ s2⟩
  | some ad =>
    have s0 := Lib.hid (S.out.alloc (.cells #[] 23))
    have hrd := Lib.hid (H4.out _ (pts w.heap.size (.cells #[] 23)) s0.out)
    have hone : ∀ u ∈ vs, u.oneCell' = true := fun u hu => by
      obtain ⟨i, hi, rfl⟩ := List.getElem_of_mem hu
      obtain ⟨u', h5, h6⟩ := HH.out.at' w emp (S.out.eq (emp_sep _).symm) i (by have := Hlen.out; omega)
      rw [List.getElem?_eq_getElem hi] at h5
      cases h5
      obtain ⟨a, c, e, -⟩ := h6
      rw [e]; rfl
    have HO := Lib.hid hone
    clear h3 hone
    go_enter Try.func48, Try.ntmps48
    go_wp2_with (at_builtin; go_must (refine wpl_append rfl _ _ rfl tBB (s0.out.rowMk (n := 0) (cap := 0) (xs := []) (Nat.le_refl _) (Nat.zero_le _) (by simp) rfl) (some ad) l.length c vs rfl rfl hrd.out (fun e => by cases e) (by rw [Hlen.out, Nat.mul_one]) HO.out (by unfold maxLen; omega) (by omega) ?_); intro v2 w2 s2 hv2; rw [List.nil_append, Nat.zero_add] at s2; have S2 := Lib.hid s2; clear s2 hv2 s0)
    go_ret
    exact ⟨v2, rfl, S2.out, FIN.out _ _ S2.out⟩
end
end Go.Proofs.Ytkkkncchinejmaa.TrW
