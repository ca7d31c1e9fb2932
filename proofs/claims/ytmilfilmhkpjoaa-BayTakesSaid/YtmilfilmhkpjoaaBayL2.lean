/- BayTakes, walked. -/
import Derived.Test.YtmilfilmhkpjoaaBayL1
namespace Go.Proofs.Ytmilfilmhkpjoaa.BayW
open Go Go.RowKit Go.Proofs.Ytmilfilmhkpjoaa Go.Proofs.Ytmilfilmhkpjoaa.Sp Go.Proofs.Ytmilfilmhkpjoaa.Reg Go.Proofs.Ytmilfilmhkpjoaa.SlW Go.Proofs.Ytmilfilmhkpjoaa.Fus Go.Proofs.Ytmilfilmhkpjoaa.Rd Go.Proofs.Ytmilfilmhkpjoaa.DskW Go.Proofs.Ytmilfilmhkpjoaa.FrmW
theorem tBo : SlT Try.prog 35 4 1 1 (.bool false) := ⟨Try.underlying35, info_parts (by kernel_rfl), rfl, by decide⟩
theorem usd_len (us : List Bool) : ∀ n, n ≤ us.length → (usd us n).length = (us.take n).count true
  | 0, _ => by simp [usd]
  | n + 1, h => by
    have ih := usd_len us n (by omega)
    have hn : n < us.length := by omega
    rw [List.take_succ_eq_append_getElem hn, List.count_append]
    cases hu : us.getD n false with
    | true =>
      rw [usd_yes hu, List.length_append, ih]
      have e : us[n] = true := by simpa [List.getD, hn] using hu
      rw [e]
      rfl
    | false =>
      rw [usd_no hu, ih]
      have e : us[n] = false := by simpa [List.getD, hn] using hu
      rw [e]
      rfl
theorem usd_all (us : List Bool) : (usd us us.length).length = us.count true := by rw [usd_len us _ (Nat.le_refl _), List.take_length]
theorem fill_count {N k : Nat} : (fill (List.replicate N false) k).count true = k := by
  unfold fill
  rw [List.count_append, List.count_replicate_self, List.drop_replicate, List.count_replicate]
  simp
theorem rep_count (N : Nat) : (List.replicate N true).count true = N := List.count_replicate_self
def bl (fr : List Bool) : List Value := fr.map Value.bool
theorem bl_at {fr : List Bool} {k : Nat} (hk : k < fr.length) : (bl fr)[k]? = some (.bool (fr.getD k false)) := by
  unfold bl
  rw [List.getElem?_map]
  simp [hk, List.getD]
theorem not_at {fr : List Bool} {k : Nat} (hk : k < fr.length) : (fr.map (!·)).getD k false = !fr.getD k false := by
  simp [List.getD, hk]
theorem modN (z : Int) {N : Nat} (h : 0 < N) : ∃ k : Nat, (bits .and .i64 z 65535).tmod (N : Int) = (k : Int) ∧ k < N := by
  have h1 : (0 : Int) ≤ z % 65536 := by omega
  refine ⟨(z % 65536 % (N : Int)).toNat, ?_, ?_⟩
  · rw [and_m16, Int.tmod_eq_emod_of_nonneg h1]
    have := Int.emod_nonneg (z % 65536) (show (N : Int) ≠ 0 by omega)
    omega
  · have h2 := Int.emod_nonneg (z % 65536) (show (N : Int) ≠ 0 by omega)
    have h3 := Int.emod_lt_of_pos (z % 65536) (show (0 : Int) < N by omega)
    omega
theorem mod40 (n : Int) : ∃ N : Nat, (bits .and .i64 n 255).tmod 40 = (N : Int) - 1 ∧ 1 ≤ N ∧ N ≤ 40 := ⟨(n % 256 % 40).toNat + 1, by rw [and_m8, Int.tmod_eq_emod_of_nonneg (by omega)]; omega, by omega, by omega⟩
set_option maxRecDepth 100000 in
set_option maxHeartbeats 16000000 in
theorem takes_walk (sl : Int) (a : Option Addr) (ca : Nat) (ns : List Int) (w0 : World) (_ws : (Lit.int .i64 sl).wf = true) (hp : IS w0 (.slice a ns.length ca) ns) (_yp : ns.length * 8 ≤ 140737488351232) :
    Calls Try.prog 4 #[.int .i64 sl, .slice a ns.length ca] w0 fun e w' => e = .returned (.bool true) ∧ Below w0.heap.size w0 w' := by
  have HP := Lib.hid hp
  obtain ⟨N, hN, bN⟩ := mod40 sl
  have hD : Dk.new (N : Int) = ⟨List.replicate N blk0, [], false⟩ := by unfold Dk.new; rw [show min (N : Int).toNat 64 = N by omega]
  have q := DskW.new_calls (N : Int) none w0 (St.init w0)
  rw [hD] at q
  have Q := Lib.hid q
  clear hp q hD
  go_enter Try.func4, Try.ntmps4
  go_wp2_with fail
  refine Q.out.mono ?_
  rintro e w1 ⟨pd, rfl, s⟩
  have q := BayW.new_calls ⟨List.replicate N blk0, [], false⟩ pd _ (by simp; omega) _ s
  rw [List.length_replicate] at q
  clear Q s
  have Q := Lib.hid q
  clear q
  go_wp2_with fail
  refine Q.out.mono ?_
  rintro e w2 ⟨b, g, c, rfl, s⟩
  clear Q
  generalize hX : dk pd (.pointer none) ⟨List.replicate N blk0, [], false⟩ * emp = X at s
  have S := Lib.hid (show St w0.heap.size w0 w2 (bay b pd g c (fill (List.replicate N false) 0) * X) from by rw [show fill (List.replicate N false) 0 = List.replicate N false from by unfold fill; simp]; exact s)
  clear s hX
  go_wp2_with fail
  clear hN
  go_loopw [6] (fun i wr => ∃ k : Nat, k ≤ N ∧ i = .int .i64 k ∧ St w0.heap.size w0 wr (bay b pd g c (fill (List.replicate N false) k) * X)) (fun i _ => N - (intOf i).toNat)
  case atStart => exact ⟨0, by omega, rfl, S.out⟩
  case round =>
    obtain ⟨k, hk, rfl, s⟩ := hrel
    clear S
    by_cases hlt : k < N
    · have hl1 : (fill (List.replicate N false) k).length = N := by rw [fill_len (by rw [List.length_replicate]; exact hk), List.length_replicate]
      have q := take_calls b g c pd (fill (List.replicate N false) k) (by rw [hl1]; omega) _ s
      unfold TkP at q
      rw [tk_some (k := k) (by rw [hl1]; exact hlt) (by rw [fill_at]; simp [List.getD, hlt]) fun j hj => fill_lt hj] at q
      have Q := Lib.hid q
      have HFS := Lib.hid (fill_set (us := List.replicate N false) (k := k) (by rw [List.length_replicate]; exact hlt))
      have hl2 : (fill (List.replicate N false) (k + 1)).length = N := by rw [fill_len (by rw [List.length_replicate]; exact hlt), List.length_replicate]
      have HF := Lib.hid fun (w' : World) (s : St w0.heap.size w0 w' (bay b pd g c (fill (List.replicate N false) (k + 1)) * X)) => show Calls Try.prog 16 #[.pointer (some ⟨b, 0, none⟩)] w' (RetS w0.heap.size w0 (bay b pd g c (fill (List.replicate N false) (k + 1)) * X) (.int .i64 ((N : Int) - 1 - (k : Int)))) from by
        have q := free_calls b g c pd (fill (List.replicate N false) (k + 1)) (by rw [hl2]; omega) w' s
        rw [usd_all, fill_count, hl2, show (N : Int) - ((k + 1 : Nat) : Int) = (N : Int) - 1 - (k : Int) by omega] at q
        exact q
      clear s q hl1 hl2
      have h9 : (k : Int) < (N : Int) := by omega
      go_wp2_with fail
      refine Q.out.mono ?_
      rintro e wq ⟨rfl, sq⟩
      rw [HFS.out] at sq
      have S := Lib.hid sq
      clear sq Q HFS
      go_wp2_with fail
      refine (HF.out _ S.out).mono ?_
      rintro e wq2 ⟨rfl, sq⟩
      clear S HF
      have S := Lib.hid sq
      clear sq
      go_wp2_with fail
      go_roundw
      case rel => exact ⟨k + 1, by omega, by go_num, S.out⟩
      case measure => simp [intOf]; omega
    · have e9 : N = k := by omega
      subst e9
      rw [fill_end (List.length_replicate)] at s
      have q := take_calls b g c pd (List.replicate N true) (by rw [List.length_replicate]; omega) _ s
      unfold TkP at q
      rw [tk_none (fun j hj => by rw [List.length_replicate] at hj; simp [List.getD, hj])] at q
      have Q := Lib.hid q
      clear s q
      go_wp2_with fail
      refine Q.out.mono ?_
      rintro e wq ⟨rfl, sq⟩
      have S := Lib.hid sq
      clear sq Q
      go_wp2_with (at_make; go_must (refine wpl_make1 rfl _ _ rfl tBo rfl S.out .i64 .i64 N N rfl rfl (Nat.le_refl _) (by unfold maxLen; omega) (by omega) ?_); intro g3 w3 s3; clear S; have S := Lib.hid s3; clear s3)
      have S2 := Lib.hid (show St w0.heap.size w0 w3 (bay b pd g c ((List.replicate N false).map (!·)) * (row 4 1 (.slice (some ⟨g3, 0, none⟩) N N) N (bl (List.replicate N false)) * X)) from by
        rw [show (List.replicate N false).map (!·) = List.replicate N true by simp, show bl (List.replicate N false) = List.replicate N (.bool false) by simp [bl]]
        exact S.out.eq (sep_left_comm _ _ _))
      clear S
      go_wp2_with fail
      go_loopw [12] (fun i wr => ∃ (m : Nat) (fr : List Bool), fr.length = N ∧ m ≤ 30 ∧ i = .int .i64 m ∧ St w0.heap.size w0 wr (bay b pd g c (fr.map (!·)) * (row 4 1 (.slice (some ⟨g3, 0, none⟩) N N) N (bl fr) * X))) (fun i _ => 30 - (intOf i).toNat)
      case atStart => exact ⟨0, List.replicate N false, List.length_replicate, by omega, rfl, S2.out⟩
      case round =>
        obtain ⟨m, fr, hfl, hm, rfl, s⟩ := hrel
        clear S2
        have HFL := Lib.hid hfl
        have S := Lib.hid s
        clear s hfl
        by_cases hlt2 : m < ns.length ∧ m < 30
        · obtain ⟨hl1, hl2⟩ := hlt2
          obtain ⟨z, hz⟩ : ∃ z, ns[m] = z := ⟨_, rfl⟩
          obtain ⟨ab, off, rfl⟩ := HP.out.head (by omega)
          have c6 := (HP.out.st rfl S.out).cellAt m hl1
          rw [hz] at c6
          obtain ⟨k, hk2, bk⟩ := modN z (N := N) (by omega)
          have bku : k < fr.length := by have := HFL.out; omega
          have h9 : (k : Int) < (N : Int) := by omega
          have g1 : (m : Int) < (ns.length : Int) := by omega
          have g2 : (m : Int) < 30 := by omega
          have hN0 : ((N : Int) == 0) = false := by rw [beq_eq_false_iff_ne]; omega
          have BK := Lib.hid bku
          have HL := Lib.hid (show (fr.set k true).length = N from by rw [List.length_set]; exact HFL.out)
          have hnt := not_at bku
          clear hz hl1 bku
          cases hu2 : fr.getD k false with
          | false =>
            rw [hu2] at hnt
            have QH := Lib.hid fun (w' : World) (s : St w0.heap.size w0 w' (bay b pd g c (fr.map (!·)) * (row 4 1 (.slice (some ⟨g3, 0, none⟩) N N) N (bl fr) * X))) => show Calls Try.prog 18 #[.pointer (some ⟨b, 0, none⟩), .int .i64 k] w' (RetS w0.heap.size w0 (bay b pd g c ((fr.set k true).map (!·)) * (row 4 1 (.slice (some ⟨g3, 0, none⟩) N N) N (bl fr) * X)) (.bool true)) from by
              have q := give_calls b g c pd (fr.map (!·)) k w' s
              have hc : can (fr.map (!·)) k true = true := by rw [can_at (by rw [List.length_map]; exact BK.out), hnt]; rfl
              rw [show put (fr.map (!·)) k true false = (fr.set k true).map (!·) from by unfold put; rw [hc, List.map_set]; rfl, hc] at q
              exact q
            have CB := Lib.hid (show (bl fr)[k]? = some (.bool false) from by rw [bl_at BK.out, hu2])
            have HS := Lib.hid (show (bl fr).set k (.bool true) = bl (fr.set k true) from by unfold bl; rw [List.map_set])
            clear hu2 hnt
            go_wp2_with fail
            refine wp_region_rx (fun j w' => St w0.heap.size w0 w' (bay b pd g c (if j = 0 then fr.map (!·) else (fr.set k true).map (!·)) * (row 4 1 (.slice (some ⟨g3, 0, none⟩) N N) N (bl fr) * X))) [2] mixed (by kernel_rfl) (by kernel_rfl) S.out.drew ?_
            refine RXl.exact (.pointer (some ⟨b, 0, none⟩)) rfl rfl rfl rfl rfl (fun _ _ _ _ _ => rfl) ?_
            refine RXl.exact (.int .i64 (k : Int)) rfl rfl rfl rfl rfl (fun _ _ _ _ _ => rfl) ?_
            refine RXl.callj 0 (.bool true) _ [.pointer (some ⟨b, 0, none⟩), .int .i64 (k : Int)] [.tmp 77, .tmp 78] _ rfl rfl rfl rfl rfl rfl (fun _ => rfl) (fun w' hJ => QH.out w' hJ) ?_
            refine RXl.exact (.slice (some ⟨g3, 0, none⟩) N N) rfl rfl rfl rfl rfl (fun _ _ _ _ _ => rfl) ?_
            refine RXl.exact (.int .i64 (k : Int)) rfl rfl rfl rfl rfl (fun _ _ _ _ _ => rfl) ?_
            refine RXl.exact (.pointer (some ⟨g3, k, none⟩)) rfl rfl rfl rfl rfl (fun j τ w' hj hJ => by simp [rho, upd, Spec.val, execOp, go_sem, h9]) ?_
            refine RXl.exact (.bool false) rfl rfl rfl rfl rfl (fun j τ w' hj hJ => by have c := (St.row1 (St.eq (sep_left_comm _ _ _) hJ)).2.2.2.2.1 k bk; rw [CB.out] at c; simp [rho, upd, Spec.val, execOp, go_sem, c]) ?_
            refine RXl.exact (.bool false) rfl rfl rfl rfl rfl (fun j τ w' hj hJ => by simp [rho, upd, Spec.val, execOp, go_sem]) ?_
            refine RXl.nilx _ (Agr.upd _ _ (Agr.upd _ _ (Agr.upd _ _ (Agr.upd _ _ (Agr.upd _ _ (Agr.upd _ _ (Agr.upd _ _ (Agr.upd _ _ (Agr.base _))))))))) fun w8 hJ => ?_
            obtain ⟨_, hJ⟩ := hJ
            simp only [Act.put, List.setIfInBounds_toArray, List.set_cons_succ, List.set_cons_zero]
            have s8 : St w0.heap.size w0 w8 (row 4 1 (.slice (some ⟨g3, 0, none⟩) N N) N (bl fr) * (bay b pd g c ((fr.set k true).map (!·)) * X)) := St.eq (sep_left_comm _ _ _) hJ
            obtain ⟨-, -, -, -, x1, x2, x3⟩ := St.row1 s8
            have c7 := x1 k bk
            have f7 := x2 k
            rw [CB.out] at c7
            have s9 := x3 k (.bool true) bk
            rw [HS.out] at s9
            have S9 := Lib.hid (s9.eq (Q := bay b pd g c ((fr.set k true).map (!·)) * (row 4 1 (.slice (some ⟨g3, 0, none⟩) N N) N (bl (fr.set k true)) * X)) (sep_left_comm _ _ _))
            clear s8 s9 hJ S QH x1 x2 x3
            go_wp2_with fail
            go_roundw
            case rel => exact ⟨m + 1, fr.set k true, HL.out, by omega, by go_num, S9.out⟩
            case measure => simp [intOf]; omega
          | true =>
            rw [hu2] at hnt
            have QH := Lib.hid fun (w' : World) (s : St w0.heap.size w0 w' (bay b pd g c (fr.map (!·)) * (row 4 1 (.slice (some ⟨g3, 0, none⟩) N N) N (bl fr) * X))) => show Calls Try.prog 18 #[.pointer (some ⟨b, 0, none⟩), .int .i64 k] w' (RetS w0.heap.size w0 (bay b pd g c (fr.map (!·)) * (row 4 1 (.slice (some ⟨g3, 0, none⟩) N N) N (bl fr) * X)) (.bool false)) from by
              have q := give_calls b g c pd (fr.map (!·)) k w' s
              have hc : can (fr.map (!·)) k true = false := by rw [can_at (by rw [List.length_map]; exact BK.out), hnt]; rfl
              rw [show put (fr.map (!·)) k true false = fr.map (!·) from by unfold put; rw [hc]; rfl, hc] at q
              exact q
            have CB := Lib.hid (show (bl fr)[k]? = some (.bool true) from by rw [bl_at BK.out, hu2])
            have HS := Lib.hid (show (bl fr).set k (.bool true) = bl fr from by rw [show (bl fr).set k (.bool true) = bl (fr.set k true) from by unfold bl; rw [List.map_set], set_same BK.out hu2])
            clear hu2 hnt
            go_wp2_with fail
            refine wp_region_rx (fun _ w' => St w0.heap.size w0 w' (bay b pd g c (fr.map (!·)) * (row 4 1 (.slice (some ⟨g3, 0, none⟩) N N) N (bl fr) * X))) [2] mixed (by kernel_rfl) (by kernel_rfl) S.out.drew ?_
            refine RXl.exact (.pointer (some ⟨b, 0, none⟩)) rfl rfl rfl rfl rfl (fun _ _ _ _ _ => rfl) ?_
            refine RXl.exact (.int .i64 (k : Int)) rfl rfl rfl rfl rfl (fun _ _ _ _ _ => rfl) ?_
            refine RXl.callj 0 (.bool false) _ [.pointer (some ⟨b, 0, none⟩), .int .i64 (k : Int)] [.tmp 77, .tmp 78] _ rfl rfl rfl rfl rfl rfl (fun _ => rfl) (fun w' hJ => QH.out w' hJ) ?_
            refine RXl.exact (.slice (some ⟨g3, 0, none⟩) N N) rfl rfl rfl rfl rfl (fun _ _ _ _ _ => rfl) ?_
            refine RXl.exact (.int .i64 (k : Int)) rfl rfl rfl rfl rfl (fun _ _ _ _ _ => rfl) ?_
            refine RXl.exact (.pointer (some ⟨g3, k, none⟩)) rfl rfl rfl rfl rfl (fun j τ w' hj hJ => by simp [rho, upd, Spec.val, execOp, go_sem, h9]) ?_
            refine RXl.exact (.bool true) rfl rfl rfl rfl rfl (fun j τ w' hj hJ => by have c := (St.row1 (St.eq (sep_left_comm _ _ _) hJ)).2.2.2.2.1 k bk; rw [CB.out] at c; simp [rho, upd, Spec.val, execOp, go_sem, c]) ?_
            refine RXl.exact (.bool false) rfl rfl rfl rfl rfl (fun j τ w' hj hJ => by simp [rho, upd, Spec.val, execOp, go_sem]) ?_
            refine RXl.nilx _ (Agr.upd _ _ (Agr.upd _ _ (Agr.upd _ _ (Agr.upd _ _ (Agr.upd _ _ (Agr.upd _ _ (Agr.upd _ _ (Agr.upd _ _ (Agr.base _))))))))) fun w8 hJ => ?_
            obtain ⟨_, hJ⟩ := hJ
            simp only [Act.put, List.setIfInBounds_toArray, List.set_cons_succ, List.set_cons_zero]
            have s8 : St w0.heap.size w0 w8 (row 4 1 (.slice (some ⟨g3, 0, none⟩) N N) N (bl fr) * (bay b pd g c (fr.map (!·)) * X)) := St.eq (sep_left_comm _ _ _) hJ
            obtain ⟨-, -, -, -, x1, x2, x3⟩ := St.row1 s8
            have c7 := x1 k bk
            have f7 := x2 k
            rw [CB.out] at c7
            have s9 := x3 k (.bool true) bk
            rw [HS.out] at s9
            have S9 := Lib.hid (s9.eq (Q := bay b pd g c (fr.map (!·)) * (row 4 1 (.slice (some ⟨g3, 0, none⟩) N N) N (bl fr) * X)) (sep_left_comm _ _ _))
            clear s8 s9 hJ S QH x1 x2 x3
            go_wp2_with fail
            go_roundw
            case rel => exact ⟨m + 1, fr, HFL.out, by omega, by go_num, S9.out⟩
            case measure => simp [intOf]; omega
        · have hfl : fr.length = N := HFL.out
          by_cases hl1 : m < ns.length
          · have g2 : ¬ (m : Int) < 30 := by omega
            have g1 : (m : Int) < (ns.length : Int) := by omega
            clear hlt2 hl1 hm
            have S2 := Lib.hid (show St w0.heap.size w0 wr (bay b pd g c (fill (fr.map (!·)) 0) * (row 4 1 (.slice (some ⟨g3, 0, none⟩) N N) N (bl fr) * X)) from by rw [show fill (fr.map (!·)) 0 = fr.map (!·) from by unfold fill; simp]; exact S.out)
            clear S
            go_wp2_with fail
            go_loopw [14] (fun i wr => ∃ k : Nat, k ≤ N ∧ i = .int .i64 k ∧ St w0.heap.size w0 wr (bay b pd g c (fill (fr.map (!·)) k) * (row 4 1 (.slice (some ⟨g3, 0, none⟩) N N) N (bl fr) * X))) (fun i _ => N - (intOf i).toNat)
            case atStart => exact ⟨0, by omega, rfl, S2.out⟩
            case round =>
              obtain ⟨k, hk, rfl, s⟩ := hrel
              clear S2
              by_cases hlt2 : k < N
              · have c7 := (St.row1 (s.eq (sep_left_comm _ _ _))).2.2.2.2.1 k hlt2
                have bku : k < fr.length := by omega
                have bku2 : k < (fr.map (!·)).length := by rw [List.length_map]; exact bku
                have h9 : (k : Int) < (N : Int) := by omega
                rw [bl_at bku] at c7
                have hnt := not_at bku
                have BK := Lib.hid bku2
                clear bku bku2
                have hlen : (fill (fr.map (!·)) k).length = N := by rw [fill_len (by have := BK.out; omega), List.length_map]; exact HFL.out
                cases hu2 : fr.getD k false with
                | false =>
                  rw [hu2] at c7 hnt
                  have hf : fill (fr.map (!·)) k = fill (fr.map (!·)) (k + 1) := by rw [← fill_set BK.out, set_same (by rw [hlen]; exact hlt2) (by rw [fill_at]; exact hnt)]
                  rw [hf] at s
                  have S := Lib.hid s
                  clear s hf hu2 hnt hlen
                  go_wp2_with fail
                  go_roundw
                  case rel => exact ⟨k + 1, by omega, by go_num, S.out⟩
                  case measure => simp [intOf]; omega
                | true =>
                  rw [hu2] at c7 hnt
                  have q := take_calls b g c pd (fill (fr.map (!·)) k) (by rw [hlen]; omega) _ s
                  unfold TkP at q
                  rw [tk_some (k := k) (by rw [hlen]; exact hlt2) (by rw [fill_at]; exact hnt) fun j hj => fill_lt hj] at q
                  have Q := Lib.hid q
                  have HF := Lib.hid (fill_set BK.out)
                  clear s q hu2 hnt hlen
                  go_wp2_with fail
                  refine Q.out.mono ?_
                  rintro e wq ⟨rfl, sq⟩
                  rw [HF.out] at sq
                  have S := Lib.hid sq
                  clear sq Q
                  go_wp2_with fail
                  go_roundw
                  case rel => exact ⟨k + 1, by omega, by go_num, S.out⟩
                  case measure => simp [intOf]; omega
              · have e9 : N = k := by omega
                subst e9
                rw [fill_end (by rw [List.length_map]; exact HFL.out)] at s
                have S := Lib.hid s
                have q1 := free_calls b g c pd _ (by rw [List.length_replicate]; omega) _ s
                rw [usd_all, rep_count, List.length_replicate, Int.sub_self] at q1
                have Q1 := Lib.hid q1
                clear s q1
                go_wp2_with fail
                refine Q1.out.mono ?_
                rintro e wq ⟨rfl, sq⟩
                clear S Q1
                have q1 := used_calls b g c pd _ (by rw [List.length_replicate]; omega) _ sq
                have hul := usd_all (List.replicate N true)
                rw [rep_count] at hul
                have HUL := Lib.hid hul
                have Q1 := Lib.hid q1
                clear q1 sq hul
                go_wp2_with fail
                refine Q1.out.mono ?_
                rintro e wq2 ⟨v, rfl, sq⟩
                obtain ⟨a9, c9, rfl, -⟩ := sq.rowSlice
                rw [HUL.out] at sq ⊢
                clear Q1
                have S := Lib.hid sq.right
                clear sq
                go_wp2_with fail
                refine (awake_calls _ S.out).mono ?_
                rintro e wq3 ⟨rfl, sq⟩
                clear S
                have S := Lib.hid sq
                clear sq
                go_wp2_with fail
                go_ret
                exact ⟨rfl, S.out.below⟩
          · have g1 : ¬ (m : Int) < (ns.length : Int) := by omega
            clear hlt2 hl1
            have S2 := Lib.hid (show St w0.heap.size w0 wr (bay b pd g c (fill (fr.map (!·)) 0) * (row 4 1 (.slice (some ⟨g3, 0, none⟩) N N) N (bl fr) * X)) from by rw [show fill (fr.map (!·)) 0 = fr.map (!·) from by unfold fill; simp]; exact S.out)
            clear S
            go_wp2_with fail
            go_loopw [14] (fun i wr => ∃ k : Nat, k ≤ N ∧ i = .int .i64 k ∧ St w0.heap.size w0 wr (bay b pd g c (fill (fr.map (!·)) k) * (row 4 1 (.slice (some ⟨g3, 0, none⟩) N N) N (bl fr) * X))) (fun i _ => N - (intOf i).toNat)
            case atStart => exact ⟨0, by omega, rfl, S2.out⟩
            case round =>
              obtain ⟨k, hk, rfl, s⟩ := hrel
              clear S2
              by_cases hlt2 : k < N
              · have c7 := (St.row1 (s.eq (sep_left_comm _ _ _))).2.2.2.2.1 k hlt2
                have bku : k < fr.length := by omega
                have bku2 : k < (fr.map (!·)).length := by rw [List.length_map]; exact bku
                have h9 : (k : Int) < (N : Int) := by omega
                rw [bl_at bku] at c7
                have hnt := not_at bku
                have BK := Lib.hid bku2
                clear bku bku2
                have hlen : (fill (fr.map (!·)) k).length = N := by rw [fill_len (by have := BK.out; omega), List.length_map]; exact HFL.out
                cases hu2 : fr.getD k false with
                | false =>
                  rw [hu2] at c7 hnt
                  have hf : fill (fr.map (!·)) k = fill (fr.map (!·)) (k + 1) := by rw [← fill_set BK.out, set_same (by rw [hlen]; exact hlt2) (by rw [fill_at]; exact hnt)]
                  rw [hf] at s
                  have S := Lib.hid s
                  clear s hf hu2 hnt hlen
                  go_wp2_with fail
                  go_roundw
                  case rel => exact ⟨k + 1, by omega, by go_num, S.out⟩
                  case measure => simp [intOf]; omega
                | true =>
                  rw [hu2] at c7 hnt
                  have q := take_calls b g c pd (fill (fr.map (!·)) k) (by rw [hlen]; omega) _ s
                  unfold TkP at q
                  rw [tk_some (k := k) (by rw [hlen]; exact hlt2) (by rw [fill_at]; exact hnt) fun j hj => fill_lt hj] at q
                  have Q := Lib.hid q
                  have HF := Lib.hid (fill_set BK.out)
                  clear s q hu2 hnt hlen
                  go_wp2_with fail
                  refine Q.out.mono ?_
                  rintro e wq ⟨rfl, sq⟩
                  rw [HF.out] at sq
                  have S := Lib.hid sq
                  clear sq Q
                  go_wp2_with fail
                  go_roundw
                  case rel => exact ⟨k + 1, by omega, by go_num, S.out⟩
                  case measure => simp [intOf]; omega
              · have e9 : N = k := by omega
                subst e9
                rw [fill_end (by rw [List.length_map]; exact HFL.out)] at s
                have S := Lib.hid s
                have q1 := free_calls b g c pd _ (by rw [List.length_replicate]; omega) _ s
                rw [usd_all, rep_count, List.length_replicate, Int.sub_self] at q1
                have Q1 := Lib.hid q1
                clear s q1
                go_wp2_with fail
                refine Q1.out.mono ?_
                rintro e wq ⟨rfl, sq⟩
                clear S Q1
                have q1 := used_calls b g c pd _ (by rw [List.length_replicate]; omega) _ sq
                have hul := usd_all (List.replicate N true)
                rw [rep_count] at hul
                have HUL := Lib.hid hul
                have Q1 := Lib.hid q1
                clear q1 sq hul
                go_wp2_with fail
                refine Q1.out.mono ?_
                rintro e wq2 ⟨v, rfl, sq⟩
                obtain ⟨a9, c9, rfl, -⟩ := sq.rowSlice
                rw [HUL.out] at sq ⊢
                clear Q1
                have S := Lib.hid sq.right
                clear sq
                go_wp2_with fail
                refine (awake_calls _ S.out).mono ?_
                rintro e wq3 ⟨rfl, sq⟩
                clear S
                have S := Lib.hid sq
                clear sq
                go_wp2_with fail
                go_ret
                exact ⟨rfl, S.out.below⟩
end Go.Proofs.Ytmilfilmhkpjoaa.BayW
