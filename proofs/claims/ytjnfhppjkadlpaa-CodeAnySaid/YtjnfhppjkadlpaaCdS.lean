/- The code laws' beginnings: a code made of numbers, over a new field. No condition. -/
import Derived.Test.YtjnfhppjkadlpaaCdQ
import Derived.Test.YtjnfhppjkadlpaaCdR
import Derived.Test.YtjnfhppjkadlpaaMgB
set_option linter.unusedSimpArgs false
set_option linter.unusedVariables false
namespace Go.Proofs.Ytjnfhppjkadlpaa.Cd
open Go Go.RowKit Go.Proofs.Ytjnfhppjkadlpaa Go.Proofs.Ytjnfhppjkadlpaa.Sp Go.Proofs.Ytjnfhppjkadlpaa.Reg Go.Proofs.Ytjnfhppjkadlpaa.Rd Go.Proofs.Ytjnfhppjkadlpaa.Obr Go.Proofs.Ytjnfhppjkadlpaa.Gf Go.Proofs.Ytjnfhppjkadlpaa.Mt
def CF (k : Nat) (a : Nat × Nat) : Value := match k with
  | 0 => .pointer (some ⟨a.1, 0, none⟩)
  | 1 => .tuple #[.pointer (some ⟨a.2, 0, none⟩), .int .i64 0]
  | 2 => .tuple #[.pointer (some ⟨a.2, 0, none⟩), .int .i64 0]
  | _ => .pointer (some ⟨a.2, 0, none⟩)
def CH (xs ys : List UInt8) (X : HP) (k : Nat) (a : Nat × Nat) : HP := match k with
  | 0 => fx a.1 * X
  | _ => cd a.2 a.1 xs ys * (fx a.1 * X)
theorem CH_x {xs ys : List UInt8} {X : HP} (j : Nat) (a : Nat × Nat) : ∃ Z, CH xs ys X j a = X * Z := by
  match j with
  | 0 => exact ⟨_, sep_comm _ _⟩
  | _ + 1 => exact ⟨cd a.2 a.1 xs ys * fx a.1, by unfold CH; ac_rfl⟩
/-- Shards without bytes, some of them missing. -/
def shE (F : Nat → Bool) (n : Nat) : Shs := (List.range n).map fun i => if F i then none else some []
theorem shE_len (F : Nat → Bool) (n : Nat) : (shE F n).length = n := by simp [shE]
theorem shE_sat (F : Nat → Bool) {n i : Nat} (h : i < n) : sat (shE F n) i = if F i then none else some [] := by
  rw [sat_at (by rw [shE_len]; exact h)]
  simp [shE]
theorem shE_bytes (F : Nat → Bool) (n : Nat) : ∀ b, some b ∈ shE F n → b.length = 0 := by
  intro b hb
  obtain ⟨i, -, e⟩ := List.mem_map.1 hb
  split at e
  · cases e
  · cases e; rfl
def cnt (F : Nat → Bool) (n : Nat) : Nat := ((List.range n).filter F).length
theorem cnt_succ (F : Nat → Bool) (n : Nat) : cnt F (n + 1) = cnt F n + if F n then 1 else 0 := by
  unfold cnt
  rw [List.range_succ, List.filter_append, List.length_append]
  congr 1
  cases h : F n <;> simp [h]
theorem cnt_true (n : Nat) : cnt (fun _ => true) n = n := by unfold cnt; rw [List.filter_eq_self.2 (fun _ _ => rfl), List.length_range]
theorem cnt_le (F : Nat → Bool) (n : Nat) : cnt F n ≤ n := by
  have := List.length_filter_le F (List.range n)
  rw [List.length_range] at this
  exact this
theorem thr_shE (F : Nat → Bool) (n : Nat) : (thr (shE F n) n).length + cnt F n = n := by
  have h : thr (shE F n) n = (List.range n).filter fun i => !F i := by
    refine List.filter_congr fun i hi => ?_
    rw [shE_sat F (List.mem_range.1 hi)]
    cases F i <;> rfl
  rw [h]
  have := filter_two F (List.range n)
  unfold cnt
  rw [List.length_range] at this
  omega
theorem lgn_shE (F : Nat → Bool) (n : Nat) : lgn (shE F n) = 0 := by
  unfold lgn
  rcases lgo_some 0 (shE F n) (shE_bytes F n) with e | ⟨e, -⟩ <;> rw [e] <;> rfl
theorem lgb_shE (F : Nat → Bool) (n : Nat) : lgb (shE F n) = true := lgb_all (by omega) (shE_bytes F n)
theorem sat_shE (F : Nat → Bool) (n : Nat) : ∀ s b, sat (shE F n) s = some b → b.length = 0 := fun s b h => shE_bytes F n b (sat_mem h).1
/-- Their headers. -/
def EH (F : Nat → Bool) (u : Value) (j : Nat) : Prop := if F j then u = .slice none 0 0 else ∃ g, u = .slice (some ⟨g, 0, none⟩) 0 0
section
variable {B : Nat} {w0 : World} {R : HP}
theorem srd_nil : SRd B w0 R (.slice none 0 0) [] := ⟨none, 0, [], rfl, rfl, Nat.le_refl _, Nat.zero_le _, fun _ => rfl, fun _ _ _ => .inl rfl, fun i h => absurd h (Nat.not_lt_zero _)⟩
theorem EH.sr {F : Nat → Bool} {u : Value} {j : Nat} (h : EH F u j) : SR B w0 R u (if F j then none else some []) := by
  unfold EH at h
  cases hF : F j with
  | true => rw [hF] at h; exact h
  | false =>
    rw [hF] at h
    obtain ⟨g, rfl⟩ := h
    exact ⟨⟨_, _, _, _, rfl⟩, fun w H _ => ⟨_, _, rfl, Nat.le_refl _, by unfold maxLen; simp, fun e => (by cases e), .inl rfl⟩⟩
theorem EH.snoc {F : Nat → Bool} {hs : List Value} {i : Nat} {u : Value} (hl : hs.length = i) (h : ∀ j (h : j < hs.length), EH F hs[j] j) (hu : EH F u i) : ∀ j (h : j < (hs ++ [u]).length), EH F (hs ++ [u])[j] j := by
  intro j hj
  by_cases e : j < hs.length
  · rw [List.getElem_append_left e]; exact h j e
  · have : j = i := by simp at hj; omega
    subst this
    rw [List.getElem_append_right (by omega)]
    simp [hl]
    exact hu
/-- Headers of one's own. -/
theorem srd_row {v : Value} {n : Nat} {hs : List Value} {l : Shs} {w : World} (hn : n = l.length) (hl : hs.length = l.length) (s : St B w0 w (row 32 1 v n hs * R)) (h : ∀ i (hi : i < l.length), ∃ u, hs[i]? = some u ∧ SR B w0 R u l[i]) : SRd B w0 (row 32 1 v n hs * R) v l := by
  subst hn
  obtain ⟨a, c, rfl, h1, h2, h3, -⟩ := s.rowSlice
  refine ⟨a, c, hs, rfl, hl, h1, h2, h3, fun w H s => ((s.eq (sep_left_comm _ _ _)).rowRd), fun i hi => ?_⟩
  obtain ⟨u, e1, e2⟩ := h i hi
  exact ⟨u, e1, SR.of rfl e2⟩
theorem CJ_x {xs ys : List UInt8} {X : HP} {j : Nat} {vs : Nat → Value} {w : World} (h : PJ B w0 X CF (CH xs ys X) j vs w) : ∃ Z, St B w0 w (X * Z) := by
  obtain ⟨Z, ⟨Z', rfl⟩, s⟩ := PJ.any (Y := fun Z => ∃ Z', Z = X * Z') ⟨emp, (sep_emp _).symm⟩ CH_x h
  exact ⟨Z', s⟩
set_option maxRecDepth 100000 in
theorem CJ_new {xs ys : List UInt8} {X : HP} {a0 : Act} {ops : Array Oper} {σ : Sig} {o : Oper} {ds : List Nat} {fs : List Operand} (a1 a2 : Option Addr) (c1 c2 : Nat) (hg : Cd.Good xs ys) (h1 : Reads B w0 X (.slice a1 xs.length c1) xs) (h2 : Reads B w0 X (.slice a2 ys.length c2) ys)
    (ha : ∀ ρ a' w, (∀ k' d', k' < 0 + 1 → ds[k']? = some d' → ρ (.tmp d') = CF k' a') → Agree ops a0.tmps.size σ o ρ w → fs.map ρ = [.pointer (some ⟨a'.1, 0, none⟩), .slice a1 xs.length c1, .slice a2 ys.length c2]) :
    ∀ ρ vs w, (∀ k' d', k' < 0 + 1 → ds[k']? = some d' → ρ (.tmp d') = vs k') → PJ B w0 X CF (CH xs ys X) (0 + 1) vs w → Agree ops a0.tmps.size σ o ρ w → ∃ args, fs.map ρ = args ∧ (callFunc 27 args.toArray).run Try.prog w = .ok (.enter 27 args.toArray) w ∧
      Calls Try.prog 27 args.toArray w fun e w' => ∃ v, e = .returned v ∧ PJ B w0 X CF (CH xs ys X) (0 + 1 + 1) (updv vs (0 + 1) v) w' :=
  PJ.call (fun a' => [.pointer (some ⟨a'.1, 0, none⟩), .slice a1 xs.length c1, .slice a2 ys.length c2]) ha (fun _ _ => rfl) fun a' w s => by
    have s : St B w0 w (fx a'.1 * X) := s
    refine (new_good a'.1 a1 a2 c1 c2 xs ys hg w (fun w' H s => h1 w' (H * fx a'.1) (s.eq (sep_assoc _ _ _).symm)) (fun w' H s => h2 w' (H * fx a'.1) (s.eq (sep_assoc _ _ _).symm)) s).mono ?_
    rintro e w1 ⟨p, rfl, s1⟩
    exact ⟨(a'.1, p), rfl, fun k hk => (by match k, hk with | 0, _ => rfl), s1⟩
/-- The numbers' code, as it lies. -/
def mc (bw : Nat) (ax : Option Addr) (cx : Nat) (ay : Option Addr) (cy : Nat) (xs ys : List UInt8) : HP :=
  pts bw (.cells #[.slice ax xs.length cx, .slice ay ys.length cy] 51) * (row 5 1 (.slice ax xs.length cx) xs.length (bvs xs) * row 5 1 (.slice ay ys.length cy) ys.length (bvs ys))
theorem mc_x {bw : Nat} {ax : Option Addr} {cx : Nat} {ay : Option Addr} {cy : Nat} {xs ys : List UInt8} : Reads B w0 (mc bw ax cx ay cy xs ys) (.slice ax xs.length cx) xs := fun w H s =>
  (s.eq (Q := row 5 1 (.slice ax xs.length cx) xs.length (bvs xs) * (H * (pts bw (.cells #[.slice ax xs.length cx, .slice ay ys.length cy] 51) * row 5 1 (.slice ay ys.length cy) ys.length (bvs ys)))) (by unfold mc; ac_rfl)).bs
theorem mc_y {bw : Nat} {ax : Option Addr} {cx : Nat} {ay : Option Addr} {cy : Nat} {xs ys : List UInt8} : Reads B w0 (mc bw ax cx ay cy xs ys) (.slice ay ys.length cy) ys := fun w H s =>
  (s.eq (Q := row 5 1 (.slice ay ys.length cy) ys.length (bvs ys) * (H * (pts bw (.cells #[.slice ax xs.length cx, .slice ay ys.length cy] 51) * row 5 1 (.slice ax xs.length cx) xs.length (bvs xs)))) (by unfold mc; ac_rfl)).bs
theorem mc_cells {bw : Nat} {ax : Option Addr} {cx : Nat} {ay : Option Addr} {cy : Nat} {xs ys : List UInt8} {w : World} (s : St B w0 w (mc bw ax cx ay cy xs ys * R)) : w.cell? ⟨bw, 0, none⟩ = some (.slice ax xs.length cx) ∧ w.cell? ⟨bw, 1, none⟩ = some (.slice ay ys.length cy) := by
  have t := s.eq (Q := pts bw (.cells #[.slice ax xs.length cx, .slice ay ys.length cy] 51) * (row 5 1 (.slice ax xs.length cx) xs.length (bvs xs) * row 5 1 (.slice ay ys.length cy) ys.length (bvs ys) * R)) (by unfold mc; ac_rfl)
  exact ⟨t.cell 0, t.cell 1⟩
set_option maxRecDepth 100000 in
set_option maxHeartbeats 16000000 in
theorem empty_in (a0 a1 a : Int) (out : Int) (K r : Nat) (hK : 1 ≤ K ∧ K ≤ 14) (hr : 1 ≤ r ∧ r ≤ 4) (e0 : (bits .and .i64 a0 255).tmod 14 = (K : Int) - 1) (e1 : bits .and .i64 a1 3 = (r : Int) - 1) (w0 : World) :
    Calls Try.prog 6 #[.int .i64 a0, .int .i64 a1, .int .i64 a, .int .u64 out] w0 fun e w' => e = .returned (.bool true) ∧ Below w0.heap.size w0 w' := by
  go_enter Try.func6, Try.ntmps6
  go_wp2_with fail
  refine (made_calls a0 a1 a K r hK hr e0 e1 w0 (St.init w0)).mono ?_
  rintro e w1 ⟨v1, v2, rfl, s1⟩
  obtain ⟨ax, cx, rfl, -⟩ := s1.rowSlice
  obtain ⟨ay, cy, rfl, -⟩ := s1.right.rowSlice
  have HG := Lib.hid (good_m a hK hr)
  clear e0 e1
  have l1 := ms_len a 0 K
  have l2 := ms_len a K r
  generalize ms a K r = ys at *
  generalize ms a 0 K = xs at *
  subst l1
  subst l2
  go_wp2_with fail
  have s2 := (s1.alloc (.cells #[.slice ax xs.length cx, .slice ay ys.length cy] 51)).eq (Q := mc w1.heap.size ax cx ay cy xs ys) (by unfold mc; rw [sep_emp])
  generalize w1.alloc (.cells #[.slice ax xs.length cx, .slice ay ys.length cy] 51) = w2 at *
  generalize w1.heap.size = bw at *
  clear s1
  have S := Lib.hid s2
  clear s2
  refine wp_region_rv [28, 33, 27, 34, 10] (PJ w0.heap.size w0 (mc bw ax cx ay cy xs ys) CF (CH xs ys (mc bw ax cx ay cy xs ys))) [0, 5, 6, 7, 9] Gf.mixed (by kernel_rfl) (by kernel_rfl) (by kernel_rfl) (fun _ => S.out.drew) ?_
  refine RXl.callV 0 28 rfl rfl rfl (Nat.le_of_ble_eq_true rfl) _ [] _ rfl rfl rfl rfl rfl (PJ.first [] (fun ρ w hag => rfl) (fun _ => rfl) (fun w s => (newx w s).mono fun e w1 ⟨fb, h1, s1⟩ => ⟨(fb, 0), h1, s1⟩)) ?_
  refine RXl.exact (.pointer (some ⟨bw, 0, none⟩)) rfl rfl rfl rfl rfl (fun j τ w' hj hJ => (by obtain ⟨vs, hv, hJ⟩ := hJ; exact (by simp [rho, upd, Spec.val, execOp, go_sem]))) ?_
  refine RXl.exact (.slice ax xs.length cx) rfl rfl rfl rfl rfl (fun j τ w' hj hJ => (by obtain ⟨vs, hv, hJ⟩ := hJ; exact (by obtain ⟨Z, q⟩ := CJ_x hJ; have c := (mc_cells q).1; simp [rho, upd, Spec.val, execOp, go_sem, c]))) ?_
  refine RXl.exact (.pointer (some ⟨bw, 1, none⟩)) rfl rfl rfl rfl rfl (fun j τ w' hj hJ => (by obtain ⟨vs, hv, hJ⟩ := hJ; exact (by simp [rho, upd, Spec.val, execOp, go_sem]))) ?_
  refine RXl.exact (.slice ay ys.length cy) rfl rfl rfl rfl rfl (fun j τ w' hj hJ => (by obtain ⟨vs, hv, hJ⟩ := hJ; exact (by obtain ⟨Z, q⟩ := CJ_x hJ; have c := (mc_cells q).2; simp [rho, upd, Spec.val, execOp, go_sem, c]))) ?_
  refine RXl.callV 1 33 rfl rfl rfl (Nat.le_of_ble_eq_true rfl) _ [.tmp 28, .tmp 30, .tmp 32] _ rfl rfl rfl rfl rfl (CJ_new ax ay cx cy HG.out mc_x mc_y (fun ρ a w h hag => by simp [h 0 28 (by decide) rfl, hag.ex 30 _ rfl rfl rfl, hag.ex 32 _ rfl rfl rfl, CF])) ?_
  refine RXl.effV 2 27 rfl rfl rfl (Nat.le_of_ble_eq_true rfl) rfl rfl rfl rfl (PJ.pass rfl (fun ρ a w h hag s => by have e := h 1 33 (by decide) rfl; exact (exec_move rfl).trans (by rw [e]; rfl))) ?_
  refine RXl.effV 3 34 rfl rfl rfl (Nat.le_of_ble_eq_true rfl) rfl rfl rfl rfl (PJ.pass rfl (fun ρ a w h hag s => by have e := h 2 27 (by decide) rfl; exact exec_extract rfl e rfl)) ?_
  refine RXl.value (.ex (.int .i64 0)) (Free.ex _) rfl rfl rfl rfl (fun ρ w' j hj hI hag => ⟨_, (by obtain ⟨a, e⟩ := PJ.val (hag.so 27 _ rfl rfl rfl); exact exec_extract rfl e rfl), rfl⟩) ?_
  refine RXl.effV 4 10 rfl rfl rfl (Nat.le_of_ble_eq_true rfl) rfl rfl rfl rfl (PJ.pass rfl (fun ρ a w h hag s => by have e := h 3 34 (by decide) rfl; exact (exec_assign rfl).trans (by rw [e]; rfl))) ?_
  refine RXl.exact (.int .i64 0) rfl rfl rfl rfl rfl (fun _ _ _ _ _ => rfl) ?_
  refine RXl.nilV _ (AgrL.upd _ _ (AgrL.unk 10 _ rfl (AgrL.upd _ _ (AgrL.unk 34 _ rfl (AgrL.unk 27 _ rfl (AgrL.unk 33 _ rfl (AgrL.upd _ _ (AgrL.upd _ _ (AgrL.upd _ _ (AgrL.upd _ _ (AgrL.unk 28 _ rfl (AgrL.base _)))))))))))) (by decide) (by decide) fun vs w8 hJ => ?_
  simp only [puts, Act.put, List.setIfInBounds_toArray, List.set_cons_succ, List.set_cons_zero]
  obtain ⟨⟨fb, p⟩, hv, s9⟩ := hJ
  rw [show vs 0 = CF 0 (fb, p) from hv 0 (by decide), show vs 1 = CF 1 (fb, p) from hv 1 (by decide), show vs 2 = CF 2 (fb, p) from hv 2 (by decide), show vs 3 = pp p from hv 3 (by decide), show vs 4 = pp p from hv 4 (by decide)]
  generalize CF 0 (fb, p) = y0
  generalize CF 1 (fb, p) = y1
  generalize CF 2 (fb, p) = y2
  clear S hv vs
  have S := Lib.hid (show St w0.heap.size w0 w8 (fx fb * (cd p fb xs ys * mc bw ax cx ay cy xs ys)) from s9.eq (sep_left_comm _ _ _))
  clear s9
  obtain ⟨F, hF⟩ : ∃ F : Nat → Bool, F = fun i => decide (bits .and .u64 (out / 2 ^ i) 1 = 1) := ⟨_, rfl⟩
  have HF := Lib.hid hF
  clear hF
  obtain ⟨hK1, hK2⟩ := hK
  obtain ⟨hr1, hr2⟩ := hr
  obtain ⟨k5, k6⟩ := mc_cells (S.out.eq (Q := mc bw ax cx ay cy xs ys * (fx fb * cd p fb xs ys)) (by ac_rfl))
  have T := Lib.hid (S.out.rowNil 32 1)
  clear S
  go_wp2_with fail
  clear k5 k6
  go_loopw [13, 14, 15] (fun L lo ii wr => ∃ (i : Nat) (hs : List Value), i ≤ xs.length + ys.length ∧ ii = .int .i64 (i : Int) ∧ lo = .int .i64 (cnt F i : Int) ∧ hs.length = i ∧ (∀ j (h : j < hs.length), EH F hs[j] j) ∧ St w0.heap.size w0 wr (row 32 1 L i hs * (fx fb * (cd p fb xs ys * mc bw ax cx ay cy xs ys)))) (fun _ _ ii _ => xs.length + ys.length - (intOf ii).toNat)
  case atStart => exact ⟨0, [], Nat.zero_le _, rfl, rfl, rfl, fun j h => absurd h (Nat.not_lt_zero _), T.out⟩
  case round =>
    obtain ⟨i, hs, hi, rfl, rfl, hhl, heh, s1⟩ := hrel
    clear T
    have HHS := Lib.hid (And.intro hhl heh)
    obtain ⟨a7, c7, rfl, -⟩ := s1.rowSlice
    clear hhl heh
    by_cases hlt : i < xs.length + ys.length
    · have hltI : (i : Int) < (xs.length : Int) + (ys.length : Int) := by omega
      have hcl := cnt_le F i
      have hcs := Lib.hid (cnt_succ F i)
      by_cases hf : F i = true
      · have hb : bits .and .u64 (out / 2 ^ i) 1 = 1 := by have := hf; rw [HF.out] at this; exact of_decide_eq_true this
        rw [if_pos hf] at hcs
        have HFi := Lib.hid hf
        clear hf
        generalize cnt F i = ci at *
        have S4 := Lib.hid ((s1.alloc (.cells #[.slice none 0 0] 32)).eq (sep_left_comm _ _ _))
        have hrd := Lib.hid (Rd.new wr #[.slice none 0 0] 32)
        clear s1
        go_wp2_with (at_builtin; go_must (refine wpl_append rfl _ _ rfl tBB S4.out (some ⟨wr.heap.size, 0, none⟩) 1 1 [.slice none 0 0] rfl rfl hrd.out (fun e => by cases e) (by simp) (by simp [Value.oneCell']) (by unfold maxLen; omega) (by omega) ?_); intro v5 w5 s5 _; have S6 := Lib.hid ((s5.eq (sep_left_comm _ _ _)).right); clear s5 S4 hrd)
        go_roundw
        case rel => exact ⟨i + 1, hs ++ [.slice none 0 0], by omega, by go_num, by rw [hcs.out]; go_num, by simp [HHS.out.1], EH.snoc HHS.out.1 HHS.out.2 (by unfold EH; rw [HFi.out]; rfl), S6.out⟩
        case measure => simp [intOf]; omega
      · have hb : ¬ bits .and .u64 (out / 2 ^ i) 1 = 1 := by intro e; apply hf; rw [HF.out]; exact decide_eq_true e
        rw [if_neg hf] at hcs
        have HFi := Lib.hid (show F i = false from by simpa using hf)
        clear hf
        generalize cnt F i = ci at *
        have S4 := Lib.hid (((s1.alloc (.cells #[] 5)).alloc (.cells #[.slice (some ⟨wr.heap.size, 0, none⟩) 0 0] 32)).eq (Q := row 32 1 (.slice a7 i c7) i hs * (pts (wr.alloc (.cells #[] 5)).heap.size (.cells #[.slice (some ⟨wr.heap.size, 0, none⟩) 0 0] 32) * (pts wr.heap.size (.cells #[] 5) * (fx fb * (cd p fb xs ys * mc bw ax cx ay cy xs ys))))) (by ac_rfl))
        have hrd := Lib.hid (Rd.new (wr.alloc (.cells #[] 5)) #[.slice (some ⟨wr.heap.size, 0, none⟩) 0 0] 32)
        rw [alloc_size] at S4 hrd
        clear s1
        go_wp2_with (at_builtin; go_must (refine wpl_append rfl _ _ rfl tBB S4.out (some ⟨wr.heap.size + 1, 0, none⟩) 1 1 [.slice (some ⟨wr.heap.size, 0, none⟩) 0 0] rfl rfl hrd.out (fun e => by cases e) (by simp) (by simp [Value.oneCell']) (by unfold maxLen; omega) (by omega) ?_); intro v5 w5 s5 _; have S6 := Lib.hid (s5.eq (Q := (pts (wr.heap.size + 1) (.cells #[.slice (some ⟨wr.heap.size, 0, none⟩) 0 0] 32) * pts wr.heap.size (.cells #[] 5)) * (row 32 1 v5 (i + 1) (hs ++ [.slice (some ⟨wr.heap.size, 0, none⟩) 0 0]) * (fx fb * (cd p fb xs ys * mc bw ax cx ay cy xs ys)))) (by ac_rfl)).right; clear s5 S4 hrd)
        go_roundw
        case rel => exact ⟨i + 1, hs ++ [.slice (some ⟨wr.heap.size, 0, none⟩) 0 0], by omega, by go_num, by rw [hcs.out, Nat.add_zero], by simp [HHS.out.1], EH.snoc HHS.out.1 HHS.out.2 (by unfold EH; rw [HFi.out]; exact ⟨_, rfl⟩), S6.out⟩
        case measure => simp [intOf]; omega
    · obtain rfl : i = xs.length + ys.length := by omega
      have hltI : ¬ ((xs.length + ys.length : Nat) : Int) < (xs.length : Int) + (ys.length : Int) := by omega
      have HR1 := Lib.hid (show SRd w0.heap.size w0 (row 32 1 (.slice a7 (xs.length + ys.length) c7) (xs.length + ys.length) hs * mc bw ax cx ay cy xs ys) (.slice a7 (xs.length + ys.length) c7) (shE F (xs.length + ys.length)) from
        srd_row (shE_len _ _).symm (by rw [shE_len]; exact HHS.out.1) (s1.eq (Q := (fx fb * cd p fb xs ys) * (row 32 1 (.slice a7 (xs.length + ys.length) c7) (xs.length + ys.length) hs * mc bw ax cx ay cy xs ys)) (by ac_rfl)).right (fun i hi => by
          rw [shE_len] at hi
          have hi2 : i < hs.length := by rw [HHS.out.1]; exact hi
          refine ⟨hs[i], List.getElem?_eq_getElem hi2, ?_⟩
          have h := EH.sr (B := w0.heap.size) (w0 := w0) (R := mc bw ax cx ay cy xs ys) (HHS.out.2 i hi2)
          simpa [shE] using h))
      have S := Lib.hid (s1.eq (Q := fx fb * (cd p fb xs ys * (row 32 1 (.slice a7 (xs.length + ys.length) c7) (xs.length + ys.length) hs * mc bw ax cx ay cy xs ys))) (by ac_rfl))
      have HTH := Lib.hid (thr_shE F (xs.length + ys.length))
      clear s1
      by_cases hlo : ys.length < cnt F (xs.length + ys.length)
      · have hloI : (ys.length : Int) < (cnt F (xs.length + ys.length) : Int) := by omega
        have hth : (thr (shE F (xs.length + ys.length)) (xs.length + ys.length)).length < xs.length := by have := HTH.out; omega
        have HT2 := Lib.hid hth
        clear hth hlo
        go_wp2_with fail
        refine (decode_lost p fb xs ys hK2 hr2 (.slice a7 (xs.length + ys.length) c7) (shE F (xs.length + ys.length)) (shE_len _ _) (lgb_shE _ _) (by rw [shE_len]; exact HT2.out) wr (HR1.out.of (X := fx fb) rfl) (S.out.eq (Q := cd p fb xs ys * (fx fb * (row 32 1 (.slice a7 (xs.length + ys.length) c7) (xs.length + ys.length) hs * mc bw ax cx ay cy xs ys))) (by ac_rfl))).mono ?_
        rintro e w5 ⟨rfl, s5⟩
        clear S
        have S := Lib.hid (s5.eq (Q := fx fb * (cd p fb xs ys * (row 32 1 (.slice a7 (xs.length + ys.length) c7) (xs.length + ys.length) hs * mc bw ax cx ay cy xs ys))) (by ac_rfl))
        clear s5
        generalize cnt F (xs.length + ys.length) = lo at *
        go_wp2_with (at_make; go_must (refine wpl_make1 rfl _ _ rfl tBB rfl S.out .i64 .i64 (xs.length + ys.length) (xs.length + ys.length) rfl rfl (Nat.le_refl _) (by unfold maxLen; omega) (by omega) ?_); intro g9 w9 s9; have S9 := Lib.hid (s9.eq (Q := cd p fb xs ys * (row 32 1 (.slice (some ⟨g9, 0, none⟩) (xs.length + ys.length) (xs.length + ys.length)) (xs.length + ys.length) (List.replicate (xs.length + ys.length) (.slice none 0 0)) * (fx fb * (row 32 1 (.slice a7 (xs.length + ys.length) c7) (xs.length + ys.length) hs * mc bw ax cx ay cy xs ys)))) (by ac_rfl)); clear s9 S)
        refine (decode_lost p fb xs ys hK2 hr2 (.slice (some ⟨g9, 0, none⟩) (xs.length + ys.length) (xs.length + ys.length)) (shE (fun _ => true) (xs.length + ys.length)) (shE_len _ _) (lgb_shE _ _) (by rw [shE_len]; have := thr_shE (fun _ => true) (xs.length + ys.length); have h2 : cnt (fun _ => true) (xs.length + ys.length) = xs.length + ys.length := cnt_true _; omega) w9 (srd_row (shE_len _ _).symm (by simp [shE_len]) S9.out.right (fun i hi => ⟨.slice none 0 0, by rw [shE_len] at hi; rw [List.getElem?_replicate, if_pos hi], by simp [shE]; rfl⟩)) S9.out).mono ?_
        rintro e w10 ⟨rfl, s10⟩
        have S := Lib.hid (s10.eq (Q := row 32 1 (.slice (some ⟨g9, 0, none⟩) (xs.length + ys.length) (xs.length + ys.length)) (xs.length + ys.length) (List.replicate (xs.length + ys.length) (.slice none 0 0)) * (fx fb * (cd p fb xs ys * ((row 32 1 (.slice a7 (xs.length + ys.length) c7) (xs.length + ys.length) hs * mc bw ax cx ay cy xs ys))))) (by ac_rfl)).right
        clear s10 S9
        go_wp2_with fail
        refine (decode_bad p fb xs ys hK2 hr2 (.slice none 0 0) [] (by simp) (.inl (by show 0 ≠ _; omega)) w10 srd_nil (S.out.eq (sep_left_comm _ _ _))).mono ?_
        rintro e w11 ⟨rfl, s11⟩
        clear S
        have S := Lib.hid (s11.eq (sep_left_comm _ _ _))
        clear s11
        obtain ⟨k5, k6⟩ := mc_cells (S.out.eq (Q := mc bw ax cx ay cy xs ys * (fx fb * (cd p fb xs ys * row 32 1 (.slice a7 (xs.length + ys.length) c7) (xs.length + ys.length) hs))) (by ac_rfl))
        go_wp2_with fail
        refine (awake4_calls w11 S.out).mono ?_
        rintro e w12 ⟨rfl, s12⟩
        clear S
        have S := Lib.hid s12
        clear s12
        go_wp2_with fail
        go_ret
        exact ⟨rfl, S.out.below⟩
      · have hloI : ¬ (ys.length : Int) < (cnt F (xs.length + ys.length) : Int) := by omega
        have hth : xs.length ≤ (thr (shE F (xs.length + ys.length)) (xs.length + ys.length)).length := by have := HTH.out; omega
        have HT2 := Lib.hid hth
        clear hth hlo
        go_wp2_with fail
        refine (decode_ok p fb xs ys HG.out (.slice a7 (xs.length + ys.length) c7) (shE F (xs.length + ys.length)) (shE_len _ _) (lgb_shE _ _) 0 (lgn_shE _ _) (by omega) (sat_shE _ _) (by rw [shE_len]; exact HT2.out) wr HR1.out S.out).mono ?_
        rintro e w5 ⟨A, Bk, v5, vs5, -, rfl, hvs5, -, s5⟩
        have hdl : (dec xs ys Bk (shE F (xs.length + ys.length)) 0).length = xs.length + ys.length := by unfold dec; rw [List.length_append, dt_len, px_len]
        have hd0 : ∀ b ∈ dec xs ys Bk (shE F (xs.length + ys.length)) 0, b.length = 0 := by
          intro b hb
          unfold dec at hb
          rcases List.mem_append.1 hb with h | h
          · obtain ⟨i, hi, rfl⟩ := List.getElem_of_mem h
            exact dt_all (sat_shE _ _) i hi
          · obtain ⟨j, -, rfl⟩ := List.mem_map.1 h
            unfold px1
            cases e : sat (shE F (xs.length + ys.length)) (xs.length + j) with
            | none => exact par_len _ _ _ _ _
            | some b => exact sat_shE _ _ _ _ e
        generalize dec xs ys Bk (shE F (xs.length + ys.length)) 0 = D at *
        obtain ⟨g5, c5, u5, rfl, -, -⟩ := ob_at 0 (by omega) (hvs5.trans hdl.symm) s5
        rw [hdl] at s5 ⊢
        have HDD := Lib.hid (And.intro hdl (And.intro hd0 hvs5))
        clear S hdl hd0 hvs5
        have S := Lib.hid (s5.eq (Q := fx fb * (cd p fb xs ys * (ob (.slice (some ⟨g5, 0, none⟩) (xs.length + ys.length) c5) vs5 D * (row 32 1 (.slice a7 (xs.length + ys.length) c7) (xs.length + ys.length) hs * mc bw ax cx ay cy xs ys)))) (by ac_rfl))
        clear s5
        generalize cnt F (xs.length + ys.length) = lo at *
        go_wp2_with (at_make; go_must (refine wpl_make1 rfl _ _ rfl tBB rfl S.out .i64 .i64 (xs.length + ys.length) (xs.length + ys.length) rfl rfl (Nat.le_refl _) (by unfold maxLen; omega) (by omega) ?_); intro g9 w9 s9; have S9 := Lib.hid (s9.eq (Q := cd p fb xs ys * (row 32 1 (.slice (some ⟨g9, 0, none⟩) (xs.length + ys.length) (xs.length + ys.length)) (xs.length + ys.length) (List.replicate (xs.length + ys.length) (.slice none 0 0)) * (fx fb * (ob (.slice (some ⟨g5, 0, none⟩) (xs.length + ys.length) c5) vs5 D * (row 32 1 (.slice a7 (xs.length + ys.length) c7) (xs.length + ys.length) hs * mc bw ax cx ay cy xs ys))))) (by ac_rfl)); clear s9 S)
        refine (decode_lost p fb xs ys hK2 hr2 (.slice (some ⟨g9, 0, none⟩) (xs.length + ys.length) (xs.length + ys.length)) (shE (fun _ => true) (xs.length + ys.length)) (shE_len _ _) (lgb_shE _ _) (by rw [shE_len]; have := thr_shE (fun _ => true) (xs.length + ys.length); have h2 : cnt (fun _ => true) (xs.length + ys.length) = xs.length + ys.length := cnt_true _; omega) w9 (srd_row (shE_len _ _).symm (by simp [shE_len]) S9.out.right (fun i hi => ⟨.slice none 0 0, by rw [shE_len] at hi; rw [List.getElem?_replicate, if_pos hi], by simp [shE]; rfl⟩)) S9.out).mono ?_
        rintro e w10 ⟨rfl, s10⟩
        have S := Lib.hid (s10.eq (Q := row 32 1 (.slice (some ⟨g9, 0, none⟩) (xs.length + ys.length) (xs.length + ys.length)) (xs.length + ys.length) (List.replicate (xs.length + ys.length) (.slice none 0 0)) * (fx fb * (cd p fb xs ys * ((ob (.slice (some ⟨g5, 0, none⟩) (xs.length + ys.length) c5) vs5 D * (row 32 1 (.slice a7 (xs.length + ys.length) c7) (xs.length + ys.length) hs * mc bw ax cx ay cy xs ys)))))) (by ac_rfl)).right
        clear s10 S9
        go_wp2_with fail
        refine (decode_bad p fb xs ys hK2 hr2 (.slice none 0 0) [] (by simp) (.inl (by show 0 ≠ _; omega)) w10 srd_nil (S.out.eq (sep_left_comm _ _ _))).mono ?_
        rintro e w11 ⟨rfl, s11⟩
        clear S
        have S := Lib.hid (s11.eq (sep_left_comm _ _ _))
        clear s11
        obtain ⟨k5, k6⟩ := mc_cells (S.out.eq (Q := mc bw ax cx ay cy xs ys * (fx fb * (cd p fb xs ys * (ob (.slice (some ⟨g5, 0, none⟩) (xs.length + ys.length) c5) vs5 D * row 32 1 (.slice a7 (xs.length + ys.length) c7) (xs.length + ys.length) hs)))) (by ac_rfl))
        obtain ⟨g6, c6, u6, e6, k7, b7⟩ := ob_at 0 (by have := HDD.out.1; omega) (HDD.out.2.2.trans HDD.out.1.symm) (S.out.eq (Q := ob (.slice (some ⟨g5, 0, none⟩) (xs.length + ys.length) c5) vs5 D * (fx fb * (cd p fb xs ys * (row 32 1 (.slice a7 (xs.length + ys.length) c7) (xs.length + ys.length) hs * mc bw ax cx ay cy xs ys)))) (by ac_rfl))
        obtain rfl : g5 = g6 := by have h := e6; simp at h; exact h.1
        clear e6
        obtain ⟨a8, c8, rfl, -⟩ := b7
        rw [HDD.out.2.1 _ (List.getElem_mem _)] at k7
        have hp0 : (0 : Int) < (xs.length : Int) + (ys.length : Int) := by omega
        go_wp2_with fail
        refine (awake4_calls w11 S.out).mono ?_
        rintro e w12 ⟨rfl, s12⟩
        clear S
        have S := Lib.hid s12
        clear s12
        go_wp2_with fail
        go_ret
        exact ⟨rfl, S.out.below⟩
theorem k_of (a0 : Int) : ∃ K : Nat, (1 ≤ K ∧ K ≤ 14) ∧ (bits .and .i64 a0 255).tmod 14 = (K : Int) - 1 := by
  refine ⟨(a0 % 256 % 14).toNat + 1, by omega, ?_⟩
  rw [and_m8, Int.tmod_eq_emod_of_nonneg (by omega)]
  omega
theorem r_of (a1 : Int) : ∃ r : Nat, (1 ≤ r ∧ r ≤ 4) ∧ bits .and .i64 a1 3 = (r : Int) - 1 := by
  refine ⟨(a1 % 4).toNat + 1, by omega, ?_⟩
  rw [and_m2]
  omega
theorem empty_walk (a0 a1 a out : Int) (w0 : World) (_h0 : (Lit.int .i64 a0).wf = true) (_h1 : (Lit.int .i64 a1).wf = true) (_h2 : (Lit.int .i64 a).wf = true) (_h3 : (Lit.int .u64 out).wf = true) :
    Calls Try.prog 6 #[.int .i64 a0, .int .i64 a1, .int .i64 a, .int .u64 out] w0 fun e w' => e = .returned (.bool true) ∧ Below w0.heap.size w0 w' := by
  obtain ⟨K, hK, e0⟩ := k_of a0
  obtain ⟨r, hr, e1⟩ := r_of a1
  exact empty_in a0 a1 a out K r hK hr e0 e1 w0
end
end Go.Proofs.Ytjnfhppjkadlpaa.Cd
