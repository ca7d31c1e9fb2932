/- SplitBack, walked. -/
import Derived.Test.YtkkkncchinejmaaTrL2
namespace Go.Proofs.Ytkkkncchinejmaa.TrL
open Go Go.RowKit Go.Proofs.Ytkkkncchinejmaa Go.Proofs.Ytkkkncchinejmaa.Sp Go.Proofs.Ytkkkncchinejmaa.Reg Go.Proofs.Ytkkkncchinejmaa.SlW Go.Proofs.Ytkkkncchinejmaa.Fus Go.Proofs.Ytkkkncchinejmaa.TrM Go.Proofs.Ytkkkncchinejmaa.TapW Go.Proofs.Ytkkkncchinejmaa.TrW Go.Proofs.Ytkkkncchinejmaa.Str
/-- Where Same(Strings(m), want[:n]) stands. -/
def SJ (B : Nat) (w0 : World) (l : List (List UInt8)) (X : HP) (j : Nat) (vs : Nat → Value) (w : World) : Prop := match j with
  | 0 => St B w0 w X
  | 1 => ∃ v, vs 0 = v ∧ St B w0 w (row 9 1 v l.length (sv l) * X)
  | _ => vs 1 = .bool true ∧ St B w0 w X
set_option maxRecDepth 100000 in
set_option maxHeartbeats 32000000 in
theorem back_walk (A : Option Addr) (cA : Nat) (rs : List (List UInt8)) (cut : Int) (W : World) (hrs : BSS W (.slice A rs.length cA) rs) (_w : (Lit.int .i64 cut).wf = true) :
    Calls Try.prog 3 #[.slice A rs.length cA, .int .i64 cut] W fun e w' => e = .returned (.bool true) ∧ Below W.heap.size W w' := by
  have hcA := hrs.open'.2.1
  have hcM := hrs.open'.2.2.1
  unfold maxLen at hcM
  have Hrs := Lib.hid hrs
  clear hrs
  go_enter Try.func3, Try.ntmps3
  go_wp2_with fail
  go_loopw [5, 6, 7] (fun v5 v6 i wr => ∃ (k : Nat) (L : List (List UInt8)) (a5 : Option Addr) (c5 : Nat) (a6 : Option Addr) (c6 : Nat), k ≤ rs.length ∧ k ≤ 20 ∧ i = .int .i64 k ∧ L.length ≤ k ∧ (∀ r ∈ L, okr r) ∧ (jn L).length ≤ 251 * k ∧ v5 = .slice a5 (jn L).length c5 ∧ v6 = .slice a6 L.length c6 ∧
    St W.heap.size W wr (row 5 1 (.slice a5 (jn L).length c5) (jn L).length (bvs (jn L)) * (row 9 1 (.slice a6 L.length c6) L.length (sv L) * emp))) (fun _ _ i _ => 20 - (intOf i).toNat)
  case atStart => exact ⟨0, [], none, 0, none, 0, Nat.zero_le _, Nat.zero_le _, rfl, Nat.zero_le _, by simp, by simp [jn], rfl, rfl, ((St.init W).rowNil _ _).rowNil _ _⟩
  case round =>
    obtain ⟨k, L, a5, c5, a6, c6, hk, hk2, rfl, hL, hok, hjL, rfl, rfl, s1⟩ := hrel
    by_cases hlt : k < rs.length ∧ k < 20
    · obtain ⟨hlt, hlt20⟩ := hlt
      obtain ⟨-, -, -, -, us, hr, hlv, hbu⟩ := Hrs.out.open'
      obtain ⟨u, hu, hbu⟩ := hbu k hlt
      obtain ⟨ar, cr, rfl, -⟩ := id hbu
      obtain ⟨b1, o1, rfl, hc⟩ := hr.at (by rintro rfl; rw [List.length_nil] at hlv; omega)
      have hc0 := hc k _ hu
      have hcl : ∀ w, Below W.heap.size W w → w.cell? ⟨b1, o1 + k, none⟩ = some (.slice ar rs[k].length cr) := fun w h => Add.cell h hc0
      have hbs : ∀ w, Below W.heap.size W w → BS w (.slice ar rs[k].length cr) rs[k] := fun w h => hbu.below h
      have hcw := hcl wr s1.below
      have hrm : (rs[k].length : Int) ≤ 9223372036854775807 := by have := hbu.rd.2; unfold maxLen at this; omega
      generalize rs[k] = r at *
      have S1 := Lib.hid s1
      have t1 : (k : Int) < (rs.length : Int) := by omega
      have Hcl := Lib.hid hcl
      have Hbs := Lib.hid hbs
      have Hok := Lib.hid hok
      clear hcl hbs hok
      clear hr hlv hbu hc hu hc0 s1
      by_cases hr3 : r.length < 1 ∨ 250 < r.length
      · have hr4 : (r.length : Int) < 1 ∨ ¬ (r.length : Int) < 1 ∧ (250 : Int) < (r.length : Int) := by omega
        clear hr3
        rcases hr4 with h1 | ⟨h1, h2⟩
        all_goals
          go_wp2_with fail
          go_roundw
          case rel => exact ⟨k + 1, L, a5, c5, a6, c6, by omega, by omega, by go_num, by omega, Hok.out, by omega, rfl, rfl, S1.out⟩
          case measure => simp [intOf]; omega
      · have h1 : ¬ (r.length : Int) < 1 := by omega
        have h2 : ¬ (250 : Int) < (r.length : Int) := by omega
        have hbm := Lib.hid (ofNat_bv r.length (by omega))
        have hokr : okr r := ⟨by omega, by omega⟩
        have Hokr := Lib.hid hokr
        clear hr3 hokr
        go_wp2_with fail
        refine wp_region_rv [44, 45, 50, 5] (AJ W.heap.size W a5 c5 (jn L) r (row 9 1 (.slice a6 L.length c6) L.length (sv L) * emp)) [7, 8, 13, 14] mixed (by kernel_rfl) (by kernel_rfl) rfl (fun _ => S1.out.drew) ?_
        refine RXl.exact (.slice a5 (jn L).length c5) rfl rfl rfl rfl rfl (fun _ _ _ _ _ => rfl) ?_
        refine RXl.exact (.slice (some ⟨b1, o1, none⟩) rs.length cA) rfl rfl rfl rfl rfl (fun _ _ _ _ _ => rfl) ?_
        refine RXl.exact (.int .i64 k) rfl rfl rfl rfl rfl (fun _ _ _ _ _ => rfl) ?_
        refine RXl.exact (.pointer (some ⟨b1, o1 + k, none⟩)) rfl rfl rfl rfl rfl (fun j τ w' hj hJ => (by obtain ⟨vs, hv, hJ⟩ := hJ; exact (by simp [rho, upd, Spec.val, execOp, go_sem, t1]))) ?_
        refine RXl.exact (.slice ar r.length cr) rfl rfl rfl rfl rfl (fun j τ w' hj hJ => (by obtain ⟨vs, hv, hJ⟩ := hJ; exact (by have c := Hcl.out _ hJ.below; simp [rho, upd, Spec.val, execOp, go_sem, c]))) ?_
        refine RXl.exact (.int .i64 r.length) rfl rfl rfl rfl rfl (fun j τ w' hj hJ => (by obtain ⟨vs, hv, hJ⟩ := hJ; exact (by simp [rho, upd, Spec.val, execOp, go_sem]))) ?_
        refine RXl.exact (bv (UInt8.ofNat r.length)) rfl rfl rfl rfl rfl (fun j τ w' hj hJ => (by obtain ⟨vs, hv, hJ⟩ := hJ; exact (by rw [hbm.out]; simp [rho, upd, Spec.val, execOp, go_sem]; show (r.length : Int) % 256 = r.length; omega))) ?_
        refine RXl.effV 0 44 rfl rfl rfl (Nat.le_of_ble_eq_true rfl) rfl rfl rfl rfl (fun ρ vs w hv hJ hag => AJ.e0 rfl (hag.ex 43 _ rfl rfl rfl) hJ) ?_
        refine RXl.effV 1 45 rfl rfl rfl (Nat.le_of_ble_eq_true rfl) rfl rfl rfl rfl (fun ρ vs w hv hJ hag => AJ.e1 rfl (hag.ex 37 _ rfl rfl rfl) (hv 0 44 (by decide) rfl) (by omega) hJ) ?_
        refine RXl.exact (.slice (some ⟨b1, o1, none⟩) rs.length cA) rfl rfl rfl rfl rfl (fun _ _ _ _ _ => rfl) ?_
        refine RXl.exact (.int .i64 k) rfl rfl rfl rfl rfl (fun _ _ _ _ _ => rfl) ?_
        refine RXl.exact (.pointer (some ⟨b1, o1 + k, none⟩)) rfl rfl rfl rfl rfl (fun j τ w' hj hJ => (by obtain ⟨vs, hv, hJ⟩ := hJ; exact (by simp [rho, upd, Spec.val, execOp, go_sem, t1]))) ?_
        refine RXl.exact (.slice ar r.length cr) rfl rfl rfl rfl rfl (fun j τ w' hj hJ => (by obtain ⟨vs, hv, hJ⟩ := hJ; exact (by have c := Hcl.out _ hJ.below; simp [rho, upd, Spec.val, execOp, go_sem, c]))) ?_
        refine RXl.effV 2 50 rfl rfl rfl (Nat.le_of_ble_eq_true rfl) rfl rfl rfl rfl (fun ρ vs w hv hJ hag => AJ.e2 rfl (hv 1 45 (by decide) rfl) (hag.ex 49 _ rfl rfl rfl) (by omega) (by omega) Hbs.out hJ) ?_
        refine RXl.effV 3 5 rfl rfl rfl (Nat.le_of_ble_eq_true rfl) rfl rfl rfl rfl (fun ρ vs w hv hJ hag => AJ.e3 rfl (hv 2 50 (by decide) rfl) hJ) ?_
        refine RXl.nilV _ (AgrL.unk 5 _ rfl (AgrL.unk 50 _ rfl (AgrL.upd _ _ (AgrL.upd _ _ (AgrL.upd _ _ (AgrL.upd _ _ (AgrL.unk 45 _ rfl (AgrL.unk 44 _ rfl (AgrL.upd _ _ (AgrL.upd _ _ (AgrL.upd _ _ (AgrL.upd _ _ (AgrL.upd _ _ (AgrL.upd _ _ (AgrL.upd _ _ (AgrL.base _)))))))))))))))) (by decide) (by decide) fun vs w8 hJ => ?_
        simp only [puts, Act.put, List.setIfInBounds_toArray, List.set_cons_succ, List.set_cons_zero]
        obtain ⟨a8, c8, e8, s8⟩ := hJ
        have hjs : jn (L ++ [r]) = jn L ++ [UInt8.ofNat r.length] ++ r := by rw [jn_append, jn_one, jn1]; simp
        have hl8 : (jn (L ++ [r])).length ≤ 251 * (k + 1) := by rw [hjs]; simp; omega
        rw [← hjs] at s8 e8
        rw [e8]
        have hc8 := Hcl.out _ s8.below
        have hcv := run_str (P := Try.prog) Try.underlying23 Try.underlying5 Try.underlying9 (Hbs.out _ s8.below)
        have s9 := s8.alloc (.cells #[str r] 9)
        have S9 := Lib.hid (St.eq (Q := row 9 1 (.slice a6 L.length c6) L.length (sv L) * (pts w8.heap.size (.cells #[str r] 9) * (row 5 1 (.slice a8 (jn (L ++ [r])).length c8) (jn (L ++ [r])).length (bvs (jn (L ++ [r]))) * emp))) (by ac_rfl) s9)
        have hr := Lib.hid (Rd.new w8 #[str r] 9)
        have hok2 : ∀ x ∈ L ++ [r], okr x := fun x hx => by
          rcases List.mem_append.1 hx with h | h
          · exact Hok.out x h
          · simp at h; subst h; exact Hokr.out
        have Hok2 := Lib.hid hok2
        have hsv := Lib.hid (show sv (L ++ [r]) = sv L ++ [str r] by simp [sv])
        clear s8 s9 e8 S1 hjs hok2 hcw
        go_wp2_with (at_builtin; go_must (refine wpl_append rfl _ _ rfl tSS S9.out (some ⟨w8.heap.size, 0, none⟩) 1 1 [str r] rfl rfl hr.out (fun e => by cases e) (by simp) (by simp [Value.oneCell']) (by unfold maxLen; omega) (by omega) ?_); intro v5 w5 s5 hv5; have hx5 := s5.rowSlice; have S5 := Lib.hid s5; clear s5 hv5 S9 hr)
        obtain ⟨a9, c9, rfl, -⟩ := hx5
        go_roundw
        case rel =>
          refine ⟨k + 1, L ++ [r], a8, c8, a9, c9, by omega, by omega, by go_num, by simp; omega, Hok2.out, hl8, rfl, by simp, ?_⟩
          rw [hsv.out, List.length_append]
          exact ((S5.out.eq (sep_left_comm _ _ _)).right).eq (sep_left_comm _ _ _)
        case measure => simp [intOf]; omega
    · have h3 : ¬ (k : Int) < (rs.length : Int) ∨ (k : Int) < (rs.length : Int) ∧ ¬ (k : Int) < 20 := by omega
      have k2 := and_m16 cut
      obtain ⟨y, hy, hy2⟩ : ∃ y : Nat, cut % 65536 = (y : Int) ∧ y < 65536 := ⟨(cut % 65536).toNat, by omega, by omega⟩
      rw [hy] at k2
      obtain ⟨m, hm, hm2⟩ : ∃ m : Nat, (y : Int) % (((jn L).length : Int) + 1) = (m : Int) ∧ m ≤ (jn L).length := by
        refine ⟨y % ((jn L).length + 1), by rw [Int.natCast_emod, Int.natCast_add]; rfl, ?_⟩
        have := Nat.mod_lt y (show 0 < (jn L).length + 1 by omega)
        omega
      obtain ⟨n, hn1, hn2, hn3, hn4⟩ := spl_take hok m hm2
      have hsp := spl_jn0 hok
      have q1 := split_calls a5 c5 (jn L) wr (R := row 5 1 (.slice a5 (jn L).length c5) (jn L).length (bvs (jn L)) * (row 9 1 (.slice a6 L.length c6) L.length (sv L) * emp)) (reads_right _ reads_row) (by omega) s1
      unfold SplP at q1
      rw [hsp] at q1
      have hbc := s1.bs
      have hcc := hbc.rd.2.1
      have hcc2 := hbc.rd.2.2.1
      unfold maxLen at hcc2
      have hsl : ∀ w, (Instr.sliceAt 23 (.slice a5 (jn L).length c5) none (some (.int .i64 (m : Int))) none).run Try.prog w = .ok (.slice a5 m c5) w := fun w => by
        have q := run_slice_sl tB w a5 (jn L).length c5 none (some (.int .i64 (m : Int))) 0 m (.inl ⟨rfl, rfl⟩) (.inr ⟨_, rfl⟩) (Nat.zero_le _) (by omega)
        rw [q]; cases a5 <;> simp [Addr.add]
      have hjm : ((jn L).take m).length = m := by rw [List.length_take]; omega
      have hbc2 : ∀ w H, St W.heap.size W w (H * (row 5 1 (.slice a5 (jn L).length c5) (jn L).length (bvs (jn L)) * (row 9 1 (.slice a6 L.length c6) L.length (sv L) * emp))) → BS w (.slice a5 m c5) ((jn L).take m) := fun w H s => by
        have q := ((s.eq (Q := row 5 1 (.slice a5 (jn L).length c5) (jn L).length (bvs (jn L)) * (H * (row 9 1 (.slice a6 L.length c6) L.length (sv L) * emp))) (by ac_rfl)).bs).sub 0 m (Nat.zero_le _) hm2
        have e : subA a5 c5 0 1 = a5 := by unfold subA; cases a5 <;> simp [Addr.add]
        rw [e] at q
        simpa using q
      have q2 := fun (w : World) (s : St W.heap.size W w (row 5 1 (.slice a5 (jn L).length c5) (jn L).length (bvs (jn L)) * (row 9 1 (.slice a6 L.length c6) L.length (sv L) * emp))) => split_calls a5 c5 ((jn L).take m) w (R := row 5 1 (.slice a5 (jn L).length c5) (jn L).length (bvs (jn L)) * (row 9 1 (.slice a6 L.length c6) L.length (sv L) * emp)) (by rw [hjm]; exact hbc2) (by omega) s
      unfold SplP at q2
      rw [hn2, hjm] at q2
      have hl6 : ∀ w H, St W.heap.size W w (H * (row 5 1 (.slice a5 (jn L).length c5) (jn L).length (bvs (jn L)) * (row 9 1 (.slice a6 L.length c6) L.length (sv L) * emp))) → SL w (.slice a6 L.length c6) L := fun w H s =>
        St.sl _ (s.eq (Q := row 9 1 (.slice a6 L.length c6) L.length (sv L) * (row 5 1 (.slice a5 (jn L).length c5) (jn L).length (bvs (jn L)) * (H * emp))) (by ac_rfl))
      have hjL2 : (jn L).length ≤ 5020 := by omega
      have hL2 : L.length ≤ 20 := by omega
      have hnl : (L.take n).length = n := by rw [List.length_take]; omega
      have hsl6 := hl6 wr emp (s1.eq (emp_sep _).symm)
      have hc6 : L.length ≤ c6 := by obtain ⟨_, _, e, h, _⟩ := hsl6; cases e; exact h
      have hss : ∀ w, (Instr.sliceAt 24 (.slice a6 L.length c6) none (some (.int .i64 (n : Int))) none).run Try.prog w = .ok (.slice a6 n c6) w := fun w => by
        have q := run_slice_sl tSS w a6 L.length c6 none (some (.int .i64 (n : Int))) 0 n (.inl ⟨rfl, rfl⟩) (.inr ⟨_, rfl⟩) (Nat.zero_le _) (by omega)
        rw [q]; cases a6 <;> simp [Addr.add]
      have hl7 : ∀ w H, St W.heap.size W w (H * (row 5 1 (.slice a5 (jn L).length c5) (jn L).length (bvs (jn L)) * (row 9 1 (.slice a6 L.length c6) L.length (sv L) * emp))) → SL w (.slice a6 n c6) (L.take n) := fun w H s => by
        obtain ⟨a', c', e, h1, h2, h3, h4⟩ := hl6 w H s
        cases e
        refine ⟨a6, c6, by rw [hnl], by omega, h2, h3, ?_⟩
        have q := h4.sub 0 n a6 (fun _ => by cases a6 <;> simp [Addr.add])
        have e : sv (L.take n) = (sv L).take n := by simp [sv, List.map_take]
        rw [e]
        simpa using q
      have hlast : n = L.length ∨ ∃ r, n < L.length ∧ m - (jn (L.take n)).length ≤ r.length ∧ (r.length ≤ 250) ∧ ∀ w H, St W.heap.size W w (H * (row 5 1 (.slice a5 (jn L).length c5) (jn L).length (bvs (jn L)) * (row 9 1 (.slice a6 L.length c6) L.length (sv L) * emp))) → ∃ b o, a6 = some ⟨b, o, none⟩ ∧ w.cell? ⟨b, o + n, none⟩ = some (str r) := by
        rcases hn4 with h | ⟨r, h5, h6⟩
        · exact .inl h
        · obtain ⟨h7, h8⟩ := List.getElem?_eq_some_iff.1 h5
          refine .inr ⟨r, h7, h6, (hok r (List.mem_of_getElem? h5)).2, fun w H s => ?_⟩
          obtain ⟨b, o, e, hc⟩ := (hl6 w H s).at n h7
          exact ⟨b, o, e, by rw [hc, h8]⟩
      generalize hjl : jn L = J at *
      generalize hln : J.length = jl at *
      generalize hLn : L.length = ll at *
      generalize hjt : (jn (L.take n)).length = jt at *
      generalize hLt : L.take n = Lt at *
      have Q1 := Lib.hid q1
      have Q2 := Lib.hid q2
      have S1 := Lib.hid s1
      have Hok := Lib.hid hok
      have Hjl := Lib.hid hjl
      have Hln := Lib.hid hln
      have HLn := Lib.hid hLn
      have Hjt := Lib.hid hjt
      have HLt := Lib.hid hLt
      have Hl6 := Lib.hid hl6
      have Hl7 := Lib.hid hl7
      have Hy := Lib.hid hy
      have Hm := Lib.hid hm
      have Hsp := Lib.hid hsp
      have Hn2 := Lib.hid hn2
      have Hjm := Lib.hid hjm
      have Hbc2 := Lib.hid hbc2
      have Hlast := Lib.hid hlast
      have Hnl := Lib.hid hnl
      have Hsl := Lib.hid hsl
      have Hss := Lib.hid hss
      clear hok hjl hln hLn hjt hLt hl6 hl7 hy hm hsp hn2 hjm hbc2 hlast hnl hsl hss
      have e0 : ((jl : Int) != jl) = false := by simp
      clear q1 q2 s1 hbc hlt hsl6 hn4 hjL hL
      rcases h3 with h3 | ⟨h3, h4⟩
      · skip
        go_wp2_with fail
        refine Q1.out.mono ?_
        rintro e w3 ⟨v3, vs3, rfl, hv3, s3⟩
        obtain ⟨a3, c3, rfl, -⟩ := ob_open s3
        have hsr := Lib.hid (fun (w' : World) (H : HP) (s : St W.heap.size W w' (H * (ob (.slice a3 L.length c3) vs3 L * (row 5 1 (.slice a5 jl c5) jl (bvs J) * (row 9 1 (.slice a6 ll c6) ll (sv L) * emp))))) => ob_bss (R := H * (row 5 1 (.slice a5 jl c5) jl (bvs J) * (row 9 1 (.slice a6 ll c6) ll (sv L) * emp))) (v := .slice a3 L.length c3) (vs := vs3) (l := L) (s.eq (by ac_rfl)))
        have Q5 := Lib.hid (strings_calls (.slice a3 L.length c3) L w3 hsr.out (by rw [HLn.out]; omega) s3)
        clear s3 hsr hv3 Q1 S1
        go_wp2_with fail
        refine Q5.out.mono ?_
        rintro e w5 ⟨v5, rfl, s5⟩
        obtain ⟨a7, c7, rfl, -⟩ := s5.rowSlice
        have Q6 := Lib.hid (same_calls (.slice a7 L.length c7) (.slice a6 ll c6) L L w5 (St.sl _ s5) (Hl6.out w5 (row 9 1 (.slice a7 L.length c7) L.length (sv L) * ob (.slice a3 L.length c3) vs3 L) (s5.eq (sep_assoc _ _ _).symm)))
        have S5 := Lib.hid s5.right.right
        clear s5 Q5
        go_wp2_with fail
        refine Q6.out.mono ?_
        rintro e w6 ⟨he, hadd⟩
        obtain rfl : e = .returned (.bool true) := by simpa using he
        have S6 := Lib.hid (S5.out.keep hadd)
        have hm := Hm.out
        have hsl := Hsl.out
        clear he hadd S5 Q6
        go_wp2_with fail
        clear hm hsl
        rw [Hm.out]
        have Q7 := Lib.hid (Q2.out w6 S6.out)
        refine Q7.out.mono ?_
        rintro e w7 ⟨v7, vs7, rfl, hv7, s7⟩
        obtain ⟨a8, c8, rfl, -⟩ := ob_open s7
        rw [Hnl.out]
        rw [Hnl.out] at s7
        have S7 := Lib.hid s7
        have t1 : ¬ (ll : Int) < (n : Int) := by omega
        have t2 : ¬ (m : Int) < (jt : Int) := by omega
        clear s7 S6 Q7 hv7
        go_wp2_with fail
        refine wp_region_rv [100, 105] (SJ W.heap.size W Lt (ob (.slice a8 n c8) vs7 Lt * (row 5 1 (.slice a5 jl c5) jl (bvs J) * (row 9 1 (.slice a6 ll c6) ll (sv L) * emp)))) [12, 17] mixed (by kernel_rfl) (by kernel_rfl) rfl (fun _ => S7.out.drew) ?_
        refine RXl.exact (.slice a8 n c8) rfl rfl rfl rfl rfl (fun _ _ _ _ _ => rfl) ?_
        refine RXl.exact (.int .i64 n) rfl rfl rfl rfl rfl (fun j τ w' hj hJ => (by obtain ⟨vs, hv, hJ⟩ := hJ; exact (by simp [rho, upd, Spec.val, execOp, go_sem]))) ?_
        refine RXl.exact (.slice a6 ll c6) rfl rfl rfl rfl rfl (fun _ _ _ _ _ => rfl) ?_
        refine RXl.exact (.int .i64 ll) rfl rfl rfl rfl rfl (fun j τ w' hj hJ => (by obtain ⟨vs, hv, hJ⟩ := hJ; exact (by simp [rho, upd, Spec.val, execOp, go_sem]))) ?_
        refine RXl.exact (.bool false) rfl rfl rfl rfl rfl (fun j τ w' hj hJ => (by obtain ⟨vs, hv, hJ⟩ := hJ; exact (by simp [rho, upd, Spec.val, execOp, go_sem]; omega))) ?_
        refine RXl.exact (.bool false) rfl rfl rfl rfl rfl (fun _ _ _ _ _ => rfl) ?_
        refine RXl.exact (.int .i64 jt) rfl rfl rfl rfl rfl (fun _ _ _ _ _ => rfl) ?_
        refine RXl.exact (.int .i64 m) rfl rfl rfl rfl rfl (fun _ _ _ _ _ => rfl) ?_
        refine RXl.exact (.bool false) rfl rfl rfl rfl rfl (fun j τ w' hj hJ => (by obtain ⟨vs, hv, hJ⟩ := hJ; exact (by simp [rho, upd, Spec.val, execOp, go_sem]; omega))) ?_
        refine RXl.exact (.bool false) rfl rfl rfl rfl rfl (fun _ _ _ _ _ => rfl) ?_
        refine RXl.exact (.bool false) rfl rfl rfl rfl rfl (fun _ _ _ _ _ => rfl) ?_
        refine RXl.exact (.slice a8 n c8) rfl rfl rfl rfl rfl (fun _ _ _ _ _ => rfl) ?_
        refine RXl.callV 0 100 rfl rfl rfl (Nat.le_of_ble_eq_true rfl) _ [.tmp 99] _ rfl rfl rfl rfl rfl (fun ρ vs w _ hJ hag => ⟨[.slice a8 n c8], by simp [hag.ex 99 _ rfl rfl rfl], rfl, (by rw [← Hnl.out]; rw [← Hnl.out] at hJ; exact (strings_calls (.slice a8 Lt.length c8) Lt w (fun w' H s => ob_bss (R := H * (row 5 1 (.slice a5 jl c5) jl (bvs J) * (row 9 1 (.slice a6 ll c6) ll (sv L) * emp))) (v := .slice a8 Lt.length c8) (vs := vs7) (l := Lt) (s.eq (by ac_rfl))) (by rw [Hnl.out]; omega) hJ).mono (by rintro e w' ⟨v, rfl, s⟩; exact ⟨v, rfl, v, by simp [updv], s⟩))⟩) ?_
        refine RXl.exact (.slice a6 ll c6) rfl rfl rfl rfl rfl (fun _ _ _ _ _ => rfl) ?_
        refine RXl.exact (.slice a8 n c8) rfl rfl rfl rfl rfl (fun _ _ _ _ _ => rfl) ?_
        refine RXl.exact (.int .i64 n) rfl rfl rfl rfl rfl (fun j τ w' hj hJ => (by obtain ⟨vs, hv, hJ⟩ := hJ; exact (by simp [rho, upd, Spec.val, execOp, go_sem]))) ?_
        refine RXl.exact (.slice a6 n c6) rfl rfl rfl rfl rfl (fun j τ w' hj hJ => (by obtain ⟨vs, hv, hJ⟩ := hJ; exact (exec_slice rfl (Hss.out w')))) ?_
        refine RXl.callV 1 105 rfl rfl rfl (Nat.le_of_ble_eq_true rfl) _ [.tmp 100, .tmp 104] _ rfl rfl rfl rfl rfl (fun ρ vs w hv hJ hag => by obtain ⟨v, e, s⟩ := hJ; have e100 := (hv 0 100 (by decide) rfl).trans e; exact ⟨[v, .slice a6 n c6], by simp [hag.ex 104 _ rfl rfl rfl, e100], rfl, (same_calls v (.slice a6 n c6) Lt Lt w (St.sl _ s) (Hl7.out w (row 9 1 v Lt.length (sv Lt) * ob (.slice a8 n c8) vs7 Lt) (s.eq (sep_assoc _ _ _).symm))).mono (by rintro e w' ⟨he, hadd⟩; exact ⟨.bool true, by simpa using he, by simp [updv], (s.keep hadd).right⟩)⟩) ?_
        refine RXl.value (.ex (.bool false)) (Free.ex _) rfl rfl rfl rfl (fun ρ w' j hj hI hag => ⟨_, (by obtain ⟨vs2, w2, hJ2, e2⟩ := hag.so 105 _ rfl rfl rfl; have e := e2.symm.trans hJ2.1; simp [execOp, go_sem, e]), rfl⟩) ?_
        refine RXl.exact (.bool false) rfl rfl rfl rfl rfl (fun _ _ _ _ _ => rfl) ?_
        refine RXl.nilV _ (AgrL.upd _ _ (AgrL.upd _ _ (AgrL.unk 105 _ rfl (AgrL.upd _ _ (AgrL.upd _ _ (AgrL.upd _ _ (AgrL.upd _ _ (AgrL.unk 100 _ rfl (AgrL.upd _ _ (AgrL.upd _ _ (AgrL.upd _ _ (AgrL.upd _ _ (AgrL.upd _ _ (AgrL.upd _ _ (AgrL.upd _ _ (AgrL.upd _ _ (AgrL.upd _ _ (AgrL.upd _ _ (AgrL.upd _ _ (AgrL.upd _ _ (AgrL.base _))))))))))))))))))))) (by decide) (by decide) fun vs w9 hJ => ?_
        simp only [puts, Act.put, List.setIfInBounds_toArray, List.set_cons_succ, List.set_cons_zero]
        have S9 := Lib.hid hJ.2.right
        clear hJ S7
        rcases Hlast.out with hq | ⟨r, hq1, hq2, hq3, hq4⟩
        · have t3 : ((n : Int) == (ll : Int)) = true := by simp; omega
          clear hq
          go_wp2_with fail
          refine (awake_calls _).mono ?_
          rintro e w2 ⟨rfl, h2⟩
          have HA := Lib.hid (S9.out.keep h2)
          clear h2
          go_wp2_with fail
          go_ret
          exact ⟨rfl, HA.out.below⟩
        · have t3 : ((n : Int) == (ll : Int)) = false := by simp; omega
          obtain ⟨b6, o6, rfl, hc9⟩ := hq4 _ emp (S9.out.eq (emp_sep _).symm)
          have hrz : (⟨r.toArray⟩ : ByteArray).size = r.length := by simp [ByteArray.size]
          have t4 : (m : Int) - (jt : Int) ≤ (r.length : Int) := by omega
          have t5 : (n : Int) < (ll : Int) := by omega
          clear hq1 hq2 hq4
          go_wp2_with fail
          refine (awake_calls _).mono ?_
          rintro e w2 ⟨rfl, h2⟩
          have HA := Lib.hid (S9.out.keep h2)
          clear h2
          go_wp2_with fail
          go_ret
          exact ⟨rfl, HA.out.below⟩
      · skip
        go_wp2_with fail
        refine Q1.out.mono ?_
        rintro e w3 ⟨v3, vs3, rfl, hv3, s3⟩
        obtain ⟨a3, c3, rfl, -⟩ := ob_open s3
        have hsr := Lib.hid (fun (w' : World) (H : HP) (s : St W.heap.size W w' (H * (ob (.slice a3 L.length c3) vs3 L * (row 5 1 (.slice a5 jl c5) jl (bvs J) * (row 9 1 (.slice a6 ll c6) ll (sv L) * emp))))) => ob_bss (R := H * (row 5 1 (.slice a5 jl c5) jl (bvs J) * (row 9 1 (.slice a6 ll c6) ll (sv L) * emp))) (v := .slice a3 L.length c3) (vs := vs3) (l := L) (s.eq (by ac_rfl)))
        have Q5 := Lib.hid (strings_calls (.slice a3 L.length c3) L w3 hsr.out (by rw [HLn.out]; omega) s3)
        clear s3 hsr hv3 Q1 S1
        go_wp2_with fail
        refine Q5.out.mono ?_
        rintro e w5 ⟨v5, rfl, s5⟩
        obtain ⟨a7, c7, rfl, -⟩ := s5.rowSlice
        have Q6 := Lib.hid (same_calls (.slice a7 L.length c7) (.slice a6 ll c6) L L w5 (St.sl _ s5) (Hl6.out w5 (row 9 1 (.slice a7 L.length c7) L.length (sv L) * ob (.slice a3 L.length c3) vs3 L) (s5.eq (sep_assoc _ _ _).symm)))
        have S5 := Lib.hid s5.right.right
        clear s5 Q5
        go_wp2_with fail
        refine Q6.out.mono ?_
        rintro e w6 ⟨he, hadd⟩
        obtain rfl : e = .returned (.bool true) := by simpa using he
        have S6 := Lib.hid (S5.out.keep hadd)
        have hm := Hm.out
        have hsl := Hsl.out
        clear he hadd S5 Q6
        go_wp2_with fail
        clear hm hsl
        rw [Hm.out]
        have Q7 := Lib.hid (Q2.out w6 S6.out)
        refine Q7.out.mono ?_
        rintro e w7 ⟨v7, vs7, rfl, hv7, s7⟩
        obtain ⟨a8, c8, rfl, -⟩ := ob_open s7
        rw [Hnl.out]
        rw [Hnl.out] at s7
        have S7 := Lib.hid s7
        have t1 : ¬ (ll : Int) < (n : Int) := by omega
        have t2 : ¬ (m : Int) < (jt : Int) := by omega
        clear s7 S6 Q7 hv7
        go_wp2_with fail
        refine wp_region_rv [100, 105] (SJ W.heap.size W Lt (ob (.slice a8 n c8) vs7 Lt * (row 5 1 (.slice a5 jl c5) jl (bvs J) * (row 9 1 (.slice a6 ll c6) ll (sv L) * emp)))) [12, 17] mixed (by kernel_rfl) (by kernel_rfl) rfl (fun _ => S7.out.drew) ?_
        refine RXl.exact (.slice a8 n c8) rfl rfl rfl rfl rfl (fun _ _ _ _ _ => rfl) ?_
        refine RXl.exact (.int .i64 n) rfl rfl rfl rfl rfl (fun j τ w' hj hJ => (by obtain ⟨vs, hv, hJ⟩ := hJ; exact (by simp [rho, upd, Spec.val, execOp, go_sem]))) ?_
        refine RXl.exact (.slice a6 ll c6) rfl rfl rfl rfl rfl (fun _ _ _ _ _ => rfl) ?_
        refine RXl.exact (.int .i64 ll) rfl rfl rfl rfl rfl (fun j τ w' hj hJ => (by obtain ⟨vs, hv, hJ⟩ := hJ; exact (by simp [rho, upd, Spec.val, execOp, go_sem]))) ?_
        refine RXl.exact (.bool false) rfl rfl rfl rfl rfl (fun j τ w' hj hJ => (by obtain ⟨vs, hv, hJ⟩ := hJ; exact (by simp [rho, upd, Spec.val, execOp, go_sem]; omega))) ?_
        refine RXl.exact (.bool false) rfl rfl rfl rfl rfl (fun _ _ _ _ _ => rfl) ?_
        refine RXl.exact (.int .i64 jt) rfl rfl rfl rfl rfl (fun _ _ _ _ _ => rfl) ?_
        refine RXl.exact (.int .i64 m) rfl rfl rfl rfl rfl (fun _ _ _ _ _ => rfl) ?_
        refine RXl.exact (.bool false) rfl rfl rfl rfl rfl (fun j τ w' hj hJ => (by obtain ⟨vs, hv, hJ⟩ := hJ; exact (by simp [rho, upd, Spec.val, execOp, go_sem]; omega))) ?_
        refine RXl.exact (.bool false) rfl rfl rfl rfl rfl (fun _ _ _ _ _ => rfl) ?_
        refine RXl.exact (.bool false) rfl rfl rfl rfl rfl (fun _ _ _ _ _ => rfl) ?_
        refine RXl.exact (.slice a8 n c8) rfl rfl rfl rfl rfl (fun _ _ _ _ _ => rfl) ?_
        refine RXl.callV 0 100 rfl rfl rfl (Nat.le_of_ble_eq_true rfl) _ [.tmp 99] _ rfl rfl rfl rfl rfl (fun ρ vs w _ hJ hag => ⟨[.slice a8 n c8], by simp [hag.ex 99 _ rfl rfl rfl], rfl, (by rw [← Hnl.out]; rw [← Hnl.out] at hJ; exact (strings_calls (.slice a8 Lt.length c8) Lt w (fun w' H s => ob_bss (R := H * (row 5 1 (.slice a5 jl c5) jl (bvs J) * (row 9 1 (.slice a6 ll c6) ll (sv L) * emp))) (v := .slice a8 Lt.length c8) (vs := vs7) (l := Lt) (s.eq (by ac_rfl))) (by rw [Hnl.out]; omega) hJ).mono (by rintro e w' ⟨v, rfl, s⟩; exact ⟨v, rfl, v, by simp [updv], s⟩))⟩) ?_
        refine RXl.exact (.slice a6 ll c6) rfl rfl rfl rfl rfl (fun _ _ _ _ _ => rfl) ?_
        refine RXl.exact (.slice a8 n c8) rfl rfl rfl rfl rfl (fun _ _ _ _ _ => rfl) ?_
        refine RXl.exact (.int .i64 n) rfl rfl rfl rfl rfl (fun j τ w' hj hJ => (by obtain ⟨vs, hv, hJ⟩ := hJ; exact (by simp [rho, upd, Spec.val, execOp, go_sem]))) ?_
        refine RXl.exact (.slice a6 n c6) rfl rfl rfl rfl rfl (fun j τ w' hj hJ => (by obtain ⟨vs, hv, hJ⟩ := hJ; exact (exec_slice rfl (Hss.out w')))) ?_
        refine RXl.callV 1 105 rfl rfl rfl (Nat.le_of_ble_eq_true rfl) _ [.tmp 100, .tmp 104] _ rfl rfl rfl rfl rfl (fun ρ vs w hv hJ hag => by obtain ⟨v, e, s⟩ := hJ; have e100 := (hv 0 100 (by decide) rfl).trans e; exact ⟨[v, .slice a6 n c6], by simp [hag.ex 104 _ rfl rfl rfl, e100], rfl, (same_calls v (.slice a6 n c6) Lt Lt w (St.sl _ s) (Hl7.out w (row 9 1 v Lt.length (sv Lt) * ob (.slice a8 n c8) vs7 Lt) (s.eq (sep_assoc _ _ _).symm))).mono (by rintro e w' ⟨he, hadd⟩; exact ⟨.bool true, by simpa using he, by simp [updv], (s.keep hadd).right⟩)⟩) ?_
        refine RXl.value (.ex (.bool false)) (Free.ex _) rfl rfl rfl rfl (fun ρ w' j hj hI hag => ⟨_, (by obtain ⟨vs2, w2, hJ2, e2⟩ := hag.so 105 _ rfl rfl rfl; have e := e2.symm.trans hJ2.1; simp [execOp, go_sem, e]), rfl⟩) ?_
        refine RXl.exact (.bool false) rfl rfl rfl rfl rfl (fun _ _ _ _ _ => rfl) ?_
        refine RXl.nilV _ (AgrL.upd _ _ (AgrL.upd _ _ (AgrL.unk 105 _ rfl (AgrL.upd _ _ (AgrL.upd _ _ (AgrL.upd _ _ (AgrL.upd _ _ (AgrL.unk 100 _ rfl (AgrL.upd _ _ (AgrL.upd _ _ (AgrL.upd _ _ (AgrL.upd _ _ (AgrL.upd _ _ (AgrL.upd _ _ (AgrL.upd _ _ (AgrL.upd _ _ (AgrL.upd _ _ (AgrL.upd _ _ (AgrL.upd _ _ (AgrL.upd _ _ (AgrL.base _))))))))))))))))))))) (by decide) (by decide) fun vs w9 hJ => ?_
        simp only [puts, Act.put, List.setIfInBounds_toArray, List.set_cons_succ, List.set_cons_zero]
        have S9 := Lib.hid hJ.2.right
        clear hJ S7
        rcases Hlast.out with hq | ⟨r, hq1, hq2, hq3, hq4⟩
        · have t3 : ((n : Int) == (ll : Int)) = true := by simp; omega
          clear hq
          go_wp2_with fail
          refine (awake_calls _).mono ?_
          rintro e w2 ⟨rfl, h2⟩
          have HA := Lib.hid (S9.out.keep h2)
          clear h2
          go_wp2_with fail
          go_ret
          exact ⟨rfl, HA.out.below⟩
        · have t3 : ((n : Int) == (ll : Int)) = false := by simp; omega
          obtain ⟨b6, o6, rfl, hc9⟩ := hq4 _ emp (S9.out.eq (emp_sep _).symm)
          have hrz : (⟨r.toArray⟩ : ByteArray).size = r.length := by simp [ByteArray.size]
          have t4 : (m : Int) - (jt : Int) ≤ (r.length : Int) := by omega
          have t5 : (n : Int) < (ll : Int) := by omega
          clear hq1 hq2 hq4
          go_wp2_with fail
          refine (awake_calls _).mono ?_
          rintro e w2 ⟨rfl, h2⟩
          have HA := Lib.hid (S9.out.keep h2)
          clear h2
          go_wp2_with fail
          go_ret
          exact ⟨rfl, HA.out.below⟩
end Go.Proofs.Ytkkkncchinejmaa.TrL
