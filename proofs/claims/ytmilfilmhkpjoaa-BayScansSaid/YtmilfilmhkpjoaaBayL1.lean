/- BayHolds, walked. -/
import Derived.Test.YtmilfilmhkpjoaaBayX
namespace Go.Proofs.Ytmilfilmhkpjoaa.BayW
open Go Go.RowKit Go.Proofs.Ytmilfilmhkpjoaa Go.Proofs.Ytmilfilmhkpjoaa.Sp Go.Proofs.Ytmilfilmhkpjoaa.Reg Go.Proofs.Ytmilfilmhkpjoaa.SlW Go.Proofs.Ytmilfilmhkpjoaa.Fus Go.Proofs.Ytmilfilmhkpjoaa.Rd Go.Proofs.Ytmilfilmhkpjoaa.DskW Go.Proofs.Ytmilfilmhkpjoaa.FrmW
theorem can_at {us : List Bool} {k : Nat} (hk : k < us.length) (u : Bool) : can us k u = (us.getD k false == u) := by
  unfold can
  rw [decide_eq_true (by omega), Bool.true_and, Int.toNat_natCast]
theorem set_same {us : List Bool} {k : Nat} (hk : k < us.length) (h : us.getD k false = true) : us.set k true = us := by
  refine List.ext_getElem (by simp) fun j h1 h2 => ?_
  rw [List.getElem_set]
  split
  · rename_i e
    subst e
    simpa [List.getD, hk] using h.symm
  · rfl
theorem count_set {us : List Bool} : ∀ {k : Nat}, k < us.length → us.getD k false = false → (us.set k true).count true = us.count true + 1 := by
  induction us with
  | nil => intro k h; exact absurd h (Nat.not_lt_zero k)
  | cons u us ih =>
    intro k h h2
    cases k with
    | zero =>
      obtain rfl : u = false := h2
      simp [List.set]
    | succ k =>
      have := ih (k := k) (Nat.lt_of_succ_lt_succ h) h2
      rw [List.set_cons_succ, List.count_cons, List.count_cons, this]
      omega
/-- Marks as cells. -/
def bz (us : List Bool) : Array Value := (us.map Value.bool).toArray
theorem bz_at {us : List Bool} {k : Nat} (hk : k < us.length) : (bz us)[k]? = some (.bool (us.getD k false)) := by
  unfold bz
  rw [List.getElem?_toArray, List.getElem?_map]
  simp [hk, List.getD]
theorem bz_set (us : List Bool) (k : Nat) : (bz us).setIfInBounds k (.bool true) = bz (us.set k true) := by
  unfold bz
  rw [List.setIfInBounds_toArray, List.map_set]
/-- The least so many slots used, the others as they are. -/
def fill (us : List Bool) (k : Nat) : List Bool := List.replicate k true ++ us.drop k
theorem fill_len {us : List Bool} {k : Nat} (h : k ≤ us.length) : (fill us k).length = us.length := by unfold fill; simp; omega
theorem fill_lt {us : List Bool} {k j : Nat} (h : j < k) : (fill us k).getD j false = true := by
  unfold fill
  simp [List.getD, List.getElem?_append_left (show j < (List.replicate k true).length by simpa using h), h]
theorem fill_at {us : List Bool} {k : Nat} : (fill us k).getD k false = us.getD k false := by
  unfold fill
  simp [List.getD, List.getElem?_append_right (show (List.replicate k true).length ≤ k by simp)]
theorem fill_set {us : List Bool} {k : Nat} (h : k < us.length) : (fill us k).set k true = fill us (k + 1) := by
  unfold fill
  rw [List.set_append_right _ _ (by simp), List.length_replicate, Nat.sub_self, List.replicate_succ', List.append_assoc, List.drop_eq_getElem_cons h]
  rfl
theorem fill_end {us : List Bool} {n : Nat} (h : us.length = n) : fill us n = List.replicate n true := by
  unfold fill
  rw [List.drop_of_length_le (by omega), List.append_nil]
theorem mod12 (z : Int) : ∃ k : Nat, (bits .and .i64 z 255).tmod 12 = (k : Int) ∧ k < 12 := ⟨(z % 256 % 12).toNat, by rw [and_m8, Int.tmod_eq_emod_of_nonneg (by omega)]; omega, by omega⟩
set_option maxRecDepth 100000 in
set_option maxHeartbeats 16000000 in
theorem holds_walk (a : Option Addr) (ca : Nat) (ns : List Int) (w0 : World) (hp : IS w0 (.slice a ns.length ca) ns) (_yp : ns.length * 8 ≤ 140737488351232) :
    Calls Try.prog 3 #[.slice a ns.length ca] w0 fun e w' => e = .returned (.bool true) ∧ Below w0.heap.size w0 w' := by
  have HP := Lib.hid hp
  clear hp
  go_enter Try.func3, Try.ntmps3
  go_wp2_with fail
  refine (DskW.new_calls 12 none w0 (St.init w0)).mono ?_
  rintro e w1 ⟨pd, rfl, s⟩
  have hD : Dk.new 12 = ⟨List.replicate 12 blk0, [], false⟩ := rfl
  rw [hD] at s
  have S := Lib.hid s
  clear s hD
  go_wp2_with fail
  refine (BayW.new_calls ⟨List.replicate 12 blk0, [], false⟩ pd _ (by simp) _ S.out).mono ?_
  rintro e w2 ⟨b, g, c, rfl, s⟩
  rw [List.length_replicate] at s
  clear S
  have s2 := s.alloc (.cells (bz (List.replicate 12 false)) 27)
  obtain ⟨h, hh⟩ : ∃ x, w2.heap.size = x := ⟨_, rfl⟩
  rw [hh] at s2
  generalize hX : dk pd (.pointer none) ⟨List.replicate 12 blk0, [], false⟩ * emp = X at s2
  have S := Lib.hid (s2.eq (Q := bay b pd g c (List.replicate 12 false) * (pts h (.cells (bz (List.replicate 12 false)) 27) * X)) (by ac_rfl))
  clear s s2 hX
  go_wp2_with fail
  have S2 := Lib.hid (show St w0.heap.size w0 (w2.alloc (.cells (bz (List.replicate 12 false)) 27)) _ from S.out)
  clear S
  go_loopw [5, 6] (fun cn i wr => ∃ (m : Nat) (us : List Bool), us.length = 12 ∧ m ≤ 20 ∧ i = .int .i64 m ∧ cn = .int .i64 (us.count true : Nat) ∧ St w0.heap.size w0 wr (bay b pd g c us * (pts h (.cells (bz us) 27) * X))) (fun _ i _ => 20 - (intOf i).toNat)
  case atStart => exact ⟨0, List.replicate 12 false, by simp, by omega, rfl, rfl, S2.out⟩
  case round =>
    obtain ⟨m, us, hu, hm, rfl, rfl, s⟩ := hrel
    clear S2
    have S := Lib.hid s
    clear s
    by_cases hlt : m < ns.length ∧ m < 20
    · obtain ⟨hl1, hl2⟩ := hlt
      obtain ⟨z, hz⟩ : ∃ z, ns[m] = z := ⟨_, rfl⟩
      obtain ⟨ab, off, rfl⟩ := HP.out.head (by omega)
      have c6 := (HP.out.st rfl S.out).cellAt m hl1
      rw [hz] at c6
      obtain ⟨k, hk, bk⟩ := mod12 z
      have bku : k < us.length := by omega
      have h9 : (k : Int) < 12 := by omega
      have g1 : (m : Int) < (ns.length : Int) := by omega
      have g2 : (m : Int) < 20 := by omega
      have hct := List.count_le_length (a := true) (l := us)
      have BK := Lib.hid bku
      clear hz hl1 bku
      cases hu2 : us.getD k false with
      | false =>
        have QH := Lib.hid fun (w' : World) (s : St w0.heap.size w0 w' (bay b pd g c us * (pts h (.cells (bz us) 27) * X))) => show Calls Try.prog 14 #[.pointer (some ⟨b, 0, none⟩), .int .i64 k] w' (RetS w0.heap.size w0 (bay b pd g c (us.set k true) * (pts h (.cells (bz us) 27) * X)) (.bool true)) from by
          have q := hold_calls b g c pd us k w' s
          have hc : can us k false = true := by rw [can_at BK.out, hu2]; rfl
          rw [show put us k false true = us.set k true from by unfold put; rw [hc]; rfl, hc] at q
          exact q
        have CB := Lib.hid (show (bz us)[k]? = some (.bool false) from by rw [bz_at BK.out, hu2])
        have CT := Lib.hid (count_set BK.out hu2)
        have HL := Lib.hid (show (us.set k true).length = 12 from by rw [List.length_set]; exact hu)
        have HS := Lib.hid (bz_set us k)
        have hct2 : us.count true ≤ 12 := by omega
        clear hu2 hct hu
        generalize us.count true = cn at *
        go_wp2_with fail
        refine wp_region_rx (fun j w' => St w0.heap.size w0 w' (bay b pd g c (if j = 0 then us else us.set k true) * (pts h (.cells (bz us) 27) * X))) [2] mixed (by kernel_rfl) (by kernel_rfl) S.out.drew ?_
        refine RXl.exact (.pointer (some ⟨b, 0, none⟩)) rfl rfl rfl rfl rfl (fun _ _ _ _ _ => rfl) ?_
        refine RXl.exact (.int .i64 (k : Int)) rfl rfl rfl rfl rfl (fun _ _ _ _ _ => rfl) ?_
        refine RXl.callj 0 (.bool true) _ [.pointer (some ⟨b, 0, none⟩), .int .i64 (k : Int)] [.tmp 31, .tmp 32] _ rfl rfl rfl rfl rfl rfl (fun _ => rfl) (fun w' hJ => QH.out w' hJ) ?_
        refine RXl.exact (.int .i64 (k : Int)) rfl rfl rfl rfl rfl (fun _ _ _ _ _ => rfl) ?_
        refine RXl.exact (.pointer (some ⟨h, k, none⟩)) rfl rfl rfl rfl rfl (fun j τ w' hj hJ => by simp [rho, upd, Spec.val, execOp, go_sem, h9]) ?_
        refine RXl.exact (.bool false) rfl rfl rfl rfl rfl (fun j τ w' hj hJ => by have c := (St.eq (sep_left_comm _ _ _) hJ).cell k; rw [CB.out] at c; simp [rho, upd, Spec.val, execOp, go_sem, c]) ?_
        refine RXl.exact (.bool false) rfl rfl rfl rfl rfl (fun j τ w' hj hJ => by simp [rho, upd, Spec.val, execOp, go_sem]) ?_
        refine RXl.nilx _ (Agr.upd _ _ (Agr.upd _ _ (Agr.upd _ _ (Agr.upd _ _ (Agr.upd _ _ (Agr.upd _ _ (Agr.upd _ _ (Agr.base _)))))))) fun w8 hJ => ?_
        obtain ⟨_, hJ⟩ := hJ
        simp only [Act.put, List.setIfInBounds_toArray, List.set_cons_succ, List.set_cons_zero]
        have s8 : St w0.heap.size w0 w8 (pts h (.cells (bz us) 27) * (bay b pd g c (us.set k true) * X)) := St.eq (sep_left_comm _ _ _) hJ
        have c7 := s8.cell k
        have f7 := s8.free k
        rw [CB.out] at c7
        have s9 := s8.set k (.bool true)
        rw [HS.out] at s9
        have S9 := Lib.hid (s9.eq (Q := bay b pd g c (us.set k true) * (pts h (.cells (bz (us.set k true)) 27) * X)) (sep_left_comm _ _ _))
        clear s8 s9 hJ S QH
        go_wp2_with fail
        go_roundw
        case rel => exact ⟨m + 1, us.set k true, HL.out, by omega, by go_num, by rw [CT.out]; push_cast; rfl, S9.out⟩
        case measure => simp [intOf]; omega
      | true =>
        have QH := Lib.hid fun (w' : World) (s : St w0.heap.size w0 w' (bay b pd g c us * (pts h (.cells (bz us) 27) * X))) => show Calls Try.prog 14 #[.pointer (some ⟨b, 0, none⟩), .int .i64 k] w' (RetS w0.heap.size w0 (bay b pd g c us * (pts h (.cells (bz us) 27) * X)) (.bool false)) from by
          have q := hold_calls b g c pd us k w' s
          have hc : can us k false = false := by rw [can_at BK.out, hu2]; rfl
          rw [show put us k false true = us from by unfold put; rw [hc]; rfl, hc] at q
          exact q
        have CB := Lib.hid (show (bz us)[k]? = some (.bool true) from by rw [bz_at BK.out, hu2])
        have HS := Lib.hid (show (bz us).setIfInBounds k (.bool true) = bz us from by rw [bz_set, set_same BK.out hu2])
        have HL := Lib.hid hu
        clear hu2 hct hu
        go_wp2_with fail
        refine wp_region_rx (fun _ w' => St w0.heap.size w0 w' (bay b pd g c us * (pts h (.cells (bz us) 27) * X))) [2] mixed (by kernel_rfl) (by kernel_rfl) S.out.drew ?_
        refine RXl.exact (.pointer (some ⟨b, 0, none⟩)) rfl rfl rfl rfl rfl (fun _ _ _ _ _ => rfl) ?_
        refine RXl.exact (.int .i64 (k : Int)) rfl rfl rfl rfl rfl (fun _ _ _ _ _ => rfl) ?_
        refine RXl.callj 0 (.bool false) _ [.pointer (some ⟨b, 0, none⟩), .int .i64 (k : Int)] [.tmp 31, .tmp 32] _ rfl rfl rfl rfl rfl rfl (fun _ => rfl) (fun w' hJ => QH.out w' hJ) ?_
        refine RXl.exact (.int .i64 (k : Int)) rfl rfl rfl rfl rfl (fun _ _ _ _ _ => rfl) ?_
        refine RXl.exact (.pointer (some ⟨h, k, none⟩)) rfl rfl rfl rfl rfl (fun j τ w' hj hJ => by simp [rho, upd, Spec.val, execOp, go_sem, h9]) ?_
        refine RXl.exact (.bool true) rfl rfl rfl rfl rfl (fun j τ w' hj hJ => by have c := (St.eq (sep_left_comm _ _ _) hJ).cell k; rw [CB.out] at c; simp [rho, upd, Spec.val, execOp, go_sem, c]) ?_
        refine RXl.exact (.bool false) rfl rfl rfl rfl rfl (fun j τ w' hj hJ => by simp [rho, upd, Spec.val, execOp, go_sem]) ?_
        refine RXl.nilx _ (Agr.upd _ _ (Agr.upd _ _ (Agr.upd _ _ (Agr.upd _ _ (Agr.upd _ _ (Agr.upd _ _ (Agr.upd _ _ (Agr.base _)))))))) fun w8 hJ => ?_
        obtain ⟨_, hJ⟩ := hJ
        simp only [Act.put, List.setIfInBounds_toArray, List.set_cons_succ, List.set_cons_zero]
        have s8 : St w0.heap.size w0 w8 (pts h (.cells (bz us) 27) * (bay b pd g c us * X)) := St.eq (sep_left_comm _ _ _) hJ
        have c7 := s8.cell k
        have f7 := s8.free k
        rw [CB.out] at c7
        have s9 := s8.set k (.bool true)
        rw [HS.out] at s9
        have S9 := Lib.hid (s9.eq (Q := bay b pd g c us * (pts h (.cells (bz us) 27) * X)) (sep_left_comm _ _ _))
        clear s8 s9 hJ S QH
        go_wp2_with fail
        go_roundw
        case rel => exact ⟨m + 1, us, HL.out, by omega, by go_num, rfl, S9.out⟩
        case measure => simp [intOf]; omega
    · by_cases hl1 : m < ns.length
      · have g2 : ¬ (m : Int) < 20 := by omega
        have g1 : (m : Int) < (ns.length : Int) := by omega
        clear hlt hl1 hm
        have S2 := Lib.hid (show St w0.heap.size w0 wr (bay b pd g c (fill us 0) * (pts h (.cells (bz us) 27) * X)) from by rw [show fill us 0 = us from by unfold fill; simp]; exact S.out)
        clear S
        go_wp2_with fail
        go_loopw [8] (fun i wr => ∃ k : Nat, k ≤ 12 ∧ i = .int .i64 k ∧ St w0.heap.size w0 wr (bay b pd g c (fill us k) * (pts h (.cells (bz us) 27) * X))) (fun i _ => 12 - (intOf i).toNat)
        case atStart => exact ⟨0, by omega, rfl, S2.out⟩
        case round =>
          obtain ⟨k, hk, rfl, s⟩ := hrel
          clear S2
          by_cases hlt2 : k < 12
          · have c7 := (s.eq (sep_left_comm _ _ _)).cell k
            have bku : k < us.length := by omega
            have h9 : (k : Int) < 12 := by omega
            rw [bz_at bku] at c7
            have BK := Lib.hid bku
            clear bku
            cases hu2 : us.getD k false with
            | true =>
              rw [hu2] at c7
              have hf : fill us k = fill us (k + 1) := by rw [← fill_set BK.out, set_same (by rw [fill_len (by omega)]; exact BK.out) (by rw [fill_at]; exact hu2)]
              rw [hf] at s
              have S := Lib.hid s
              clear s hf hu2
              go_wp2_with fail
              go_roundw
              case rel => exact ⟨k + 1, by omega, by go_num, S.out⟩
              case measure => simp [intOf]; omega
            | false =>
              rw [hu2] at c7
              have q := take_calls b g c pd (fill us k) (by rw [fill_len (by omega)]; omega) _ s
              unfold TkP at q
              rw [tk_some (k := k) (by rw [fill_len (by omega)]; exact BK.out) (by rw [fill_at]; exact hu2) fun j hj => fill_lt hj] at q
              have Q := Lib.hid q
              have HF := Lib.hid (fill_set BK.out)
              clear s q hu2
              go_wp2_with fail
              refine Q.out.mono ?_
              rintro e wq ⟨rfl, sq⟩
              rw [HF.out] at sq
              have S := Lib.hid sq
              clear sq Q
              go_wp2_with fail
              go_roundw
              case rel => exact ⟨k + 1, by omega, by go_num, S.out⟩
              case measure => simp [intOf]; omega
          · obtain rfl : k = 12 := by omega
            rw [fill_end hu] at s
            have hct := List.count_le_length (a := true) (l := us)
            have hct2 : ((us.count true : Nat) : Int) ≤ 12 := by omega
            have S := Lib.hid s
            clear s hct
            generalize us.count true = cn at *
            go_wp2_with fail
            refine (free_calls b g c pd _ (by simp) _ S.out).mono ?_
            rw [show (((List.replicate 12 true).length : Nat) : Int) - ((usd (List.replicate 12 true) (List.replicate 12 true).length).length : Int) = 0 from by decide]
            rintro e wq ⟨rfl, sq⟩
            clear S
            have S := Lib.hid sq
            clear sq
            go_wp2_with fail
            refine (used_calls b g c pd _ (by simp) _ S.out).mono ?_
            rintro e wq ⟨v, rfl, sq⟩
            obtain ⟨a9, c9, rfl, -⟩ := sq.rowSlice
            rw [show (usd (List.replicate 12 true) (List.replicate 12 true).length).length = 12 from by decide] at sq ⊢
            clear S
            have S := Lib.hid sq.right
            clear sq
            go_wp2_with fail
            have q1 := hold_calls b g c pd (List.replicate 12 true) 12 _ S.out
            rw [show put (List.replicate 12 true) 12 false true = List.replicate 12 true from rfl, show can (List.replicate 12 true) 12 false = false from rfl] at q1
            refine (q1).mono ?_
            rintro e wq ⟨rfl, sq⟩
            clear S
            have S := Lib.hid sq
            clear sq
            go_wp2_with fail
            clear q1
            have q1 := hold_calls b g c pd (List.replicate 12 true) (-1) _ S.out
            rw [show put (List.replicate 12 true) (-1) false true = List.replicate 12 true from rfl, show can (List.replicate 12 true) (-1) false = false from rfl] at q1
            refine (q1).mono ?_
            rintro e wq ⟨rfl, sq⟩
            clear S
            have S := Lib.hid sq
            clear sq
            go_wp2_with fail
            clear q1
            have q1 := give_calls b g c pd (List.replicate 12 true) 12 _ S.out
            rw [show put (List.replicate 12 true) 12 true false = List.replicate 12 true from rfl, show can (List.replicate 12 true) 12 true = false from rfl] at q1
            refine (q1).mono ?_
            rintro e wq ⟨rfl, sq⟩
            clear S
            have S := Lib.hid sq
            clear sq
            go_wp2_with fail
            clear q1
            have q1 := give_calls b g c pd (List.replicate 12 true) 3 _ S.out
            rw [show put (List.replicate 12 true) 3 true false = (List.replicate 12 true).set 3 false from rfl, show can (List.replicate 12 true) 3 true = true from rfl] at q1
            refine (q1).mono ?_
            rintro e wq ⟨rfl, sq⟩
            clear S
            have S := Lib.hid sq
            clear sq
            go_wp2_with fail
            clear q1
            have q1 := give_calls b g c pd ((List.replicate 12 true).set 3 false) 3 _ S.out
            rw [show put ((List.replicate 12 true).set 3 false) 3 true false = (List.replicate 12 true).set 3 false from rfl, show can ((List.replicate 12 true).set 3 false) 3 true = false from rfl] at q1
            refine (q1).mono ?_
            rintro e wq ⟨rfl, sq⟩
            clear S
            have S := Lib.hid sq
            clear sq
            go_wp2_with fail
            clear q1
            refine (awake_calls _ S.out).mono ?_
            rintro e wq ⟨rfl, sq⟩
            clear S
            have S := Lib.hid sq
            clear sq
            go_wp2_with fail
            go_ret
            exact ⟨rfl, S.out.below⟩
      · have g1 : ¬ (m : Int) < (ns.length : Int) := by omega
        clear hlt hl1
        have S2 := Lib.hid (show St w0.heap.size w0 wr (bay b pd g c (fill us 0) * (pts h (.cells (bz us) 27) * X)) from by rw [show fill us 0 = us from by unfold fill; simp]; exact S.out)
        clear S
        go_wp2_with fail
        go_loopw [8] (fun i wr => ∃ k : Nat, k ≤ 12 ∧ i = .int .i64 k ∧ St w0.heap.size w0 wr (bay b pd g c (fill us k) * (pts h (.cells (bz us) 27) * X))) (fun i _ => 12 - (intOf i).toNat)
        case atStart => exact ⟨0, by omega, rfl, S2.out⟩
        case round =>
          obtain ⟨k, hk, rfl, s⟩ := hrel
          clear S2
          by_cases hlt2 : k < 12
          · have c7 := (s.eq (sep_left_comm _ _ _)).cell k
            have bku : k < us.length := by omega
            have h9 : (k : Int) < 12 := by omega
            rw [bz_at bku] at c7
            have BK := Lib.hid bku
            clear bku
            cases hu2 : us.getD k false with
            | true =>
              rw [hu2] at c7
              have hf : fill us k = fill us (k + 1) := by rw [← fill_set BK.out, set_same (by rw [fill_len (by omega)]; exact BK.out) (by rw [fill_at]; exact hu2)]
              rw [hf] at s
              have S := Lib.hid s
              clear s hf hu2
              go_wp2_with fail
              go_roundw
              case rel => exact ⟨k + 1, by omega, by go_num, S.out⟩
              case measure => simp [intOf]; omega
            | false =>
              rw [hu2] at c7
              have q := take_calls b g c pd (fill us k) (by rw [fill_len (by omega)]; omega) _ s
              unfold TkP at q
              rw [tk_some (k := k) (by rw [fill_len (by omega)]; exact BK.out) (by rw [fill_at]; exact hu2) fun j hj => fill_lt hj] at q
              have Q := Lib.hid q
              have HF := Lib.hid (fill_set BK.out)
              clear s q hu2
              go_wp2_with fail
              refine Q.out.mono ?_
              rintro e wq ⟨rfl, sq⟩
              rw [HF.out] at sq
              have S := Lib.hid sq
              clear sq Q
              go_wp2_with fail
              go_roundw
              case rel => exact ⟨k + 1, by omega, by go_num, S.out⟩
              case measure => simp [intOf]; omega
          · obtain rfl : k = 12 := by omega
            rw [fill_end hu] at s
            have hct := List.count_le_length (a := true) (l := us)
            have hct2 : ((us.count true : Nat) : Int) ≤ 12 := by omega
            have S := Lib.hid s
            clear s hct
            generalize us.count true = cn at *
            go_wp2_with fail
            refine (free_calls b g c pd _ (by simp) _ S.out).mono ?_
            rw [show (((List.replicate 12 true).length : Nat) : Int) - ((usd (List.replicate 12 true) (List.replicate 12 true).length).length : Int) = 0 from by decide]
            rintro e wq ⟨rfl, sq⟩
            clear S
            have S := Lib.hid sq
            clear sq
            go_wp2_with fail
            refine (used_calls b g c pd _ (by simp) _ S.out).mono ?_
            rintro e wq ⟨v, rfl, sq⟩
            obtain ⟨a9, c9, rfl, -⟩ := sq.rowSlice
            rw [show (usd (List.replicate 12 true) (List.replicate 12 true).length).length = 12 from by decide] at sq ⊢
            clear S
            have S := Lib.hid sq.right
            clear sq
            go_wp2_with fail
            have q1 := hold_calls b g c pd (List.replicate 12 true) 12 _ S.out
            rw [show put (List.replicate 12 true) 12 false true = List.replicate 12 true from rfl, show can (List.replicate 12 true) 12 false = false from rfl] at q1
            refine (q1).mono ?_
            rintro e wq ⟨rfl, sq⟩
            clear S
            have S := Lib.hid sq
            clear sq
            go_wp2_with fail
            clear q1
            have q1 := hold_calls b g c pd (List.replicate 12 true) (-1) _ S.out
            rw [show put (List.replicate 12 true) (-1) false true = List.replicate 12 true from rfl, show can (List.replicate 12 true) (-1) false = false from rfl] at q1
            refine (q1).mono ?_
            rintro e wq ⟨rfl, sq⟩
            clear S
            have S := Lib.hid sq
            clear sq
            go_wp2_with fail
            clear q1
            have q1 := give_calls b g c pd (List.replicate 12 true) 12 _ S.out
            rw [show put (List.replicate 12 true) 12 true false = List.replicate 12 true from rfl, show can (List.replicate 12 true) 12 true = false from rfl] at q1
            refine (q1).mono ?_
            rintro e wq ⟨rfl, sq⟩
            clear S
            have S := Lib.hid sq
            clear sq
            go_wp2_with fail
            clear q1
            have q1 := give_calls b g c pd (List.replicate 12 true) 3 _ S.out
            rw [show put (List.replicate 12 true) 3 true false = (List.replicate 12 true).set 3 false from rfl, show can (List.replicate 12 true) 3 true = true from rfl] at q1
            refine (q1).mono ?_
            rintro e wq ⟨rfl, sq⟩
            clear S
            have S := Lib.hid sq
            clear sq
            go_wp2_with fail
            clear q1
            have q1 := give_calls b g c pd ((List.replicate 12 true).set 3 false) 3 _ S.out
            rw [show put ((List.replicate 12 true).set 3 false) 3 true false = (List.replicate 12 true).set 3 false from rfl, show can ((List.replicate 12 true).set 3 false) 3 true = false from rfl] at q1
            refine (q1).mono ?_
            rintro e wq ⟨rfl, sq⟩
            clear S
            have S := Lib.hid sq
            clear sq
            go_wp2_with fail
            clear q1
            refine (awake_calls _ S.out).mono ?_
            rintro e wq ⟨rfl, sq⟩
            clear S
            have S := Lib.hid sq
            clear sq
            go_wp2_with fail
            go_ret
            exact ⟨rfl, S.out.below⟩
end Go.Proofs.Ytmilfilmhkpjoaa.BayW
