/- SplitTells, walked. -/
import Derived.Test.YtkkkncchinejmaaTrL1
import Derived.Test.YtkkkncchinejmaaTrR
namespace Go.Proofs.Ytkkkncchinejmaa.TrL
open Go Go.RowKit Go.Proofs.Ytkkkncchinejmaa Go.Proofs.Ytkkkncchinejmaa.Sp Go.Proofs.Ytkkkncchinejmaa.Reg Go.Proofs.Ytkkkncchinejmaa.SlW Go.Proofs.Ytkkkncchinejmaa.Fus Go.Proofs.Ytkkkncchinejmaa.TrM Go.Proofs.Ytkkkncchinejmaa.TapW Go.Proofs.Ytkkkncchinejmaa.TrW Go.Proofs.Ytkkkncchinejmaa.Str Go.Proofs.Ytkkkncchinejmaa.TrR
section
variable {B : Nat} {w0 : World} {R : HP}
/-- Where append(append(c, byte(len(r))), r...) stands. -/
def AJ (B : Nat) (w0 : World) (a7 : Option Addr) (c7 : Nat) (C r : List UInt8) (R : HP) (j : Nat) (vs : Nat → Value) (w : World) : Prop := match j with
  | 0 => St B w0 w (row 5 1 (.slice a7 C.length c7) C.length (bvs C) * R)
  | 1 => ∃ g, vs 0 = .slice (some ⟨g, 0, none⟩) 1 1 ∧ St B w0 w (row 5 1 (.slice a7 C.length c7) C.length (bvs C) * (pts g (.cells #[bv (UInt8.ofNat r.length)] 5) * R))
  | 2 => ∃ a c, vs 1 = .slice a (C ++ [UInt8.ofNat r.length]).length c ∧ St B w0 w (row 5 1 (.slice a (C ++ [UInt8.ofNat r.length]).length c) (C ++ [UInt8.ofNat r.length]).length (bvs (C ++ [UInt8.ofNat r.length])) * R)
  | 3 => ∃ a c, vs 2 = .slice a (C ++ [UInt8.ofNat r.length] ++ r).length c ∧ St B w0 w (row 5 1 (.slice a (C ++ [UInt8.ofNat r.length] ++ r).length c) (C ++ [UInt8.ofNat r.length] ++ r).length (bvs (C ++ [UInt8.ofNat r.length] ++ r)) * R)
  | _ => ∃ a c, vs 3 = .slice a (C ++ [UInt8.ofNat r.length] ++ r).length c ∧ St B w0 w (row 5 1 (.slice a (C ++ [UInt8.ofNat r.length] ++ r).length c) (C ++ [UInt8.ofNat r.length] ++ r).length (bvs (C ++ [UInt8.ofNat r.length] ++ r)) * R)
theorem AJ.below {a7 : Option Addr} {c7 : Nat} {C r : List UInt8} : ∀ {j : Nat} {vs : Nat → Value} {w : World}, AJ B w0 a7 c7 C r R j vs w → Below B w0 w
  | 0, _, _, h => St.below h
  | 1, _, _, ⟨_, _, h⟩ => h.below
  | 2, _, _, ⟨_, _, _, h⟩ => h.below
  | 3, _, _, ⟨_, _, _, h⟩ => h.below
  | _ + 4, _, _, ⟨_, _, _, h⟩ => h.below
theorem AJ.e0 {a7 : Option Addr} {c7 : Nat} {C r : List UInt8} {ρ : Operand → Value} {o : Oper} {vs : Nat → Value} {w : World} {y : Operand} (hop : o.op = .buildSlice 23 1 #[(0, y)]) (hy : ρ y = bv (UInt8.ofNat r.length)) (hJ : AJ B w0 a7 c7 C r R 0 vs w) :
    ∃ v w', (execOp ρ o).run Try.prog w = .ok (.value v) w' ∧ AJ B w0 a7 c7 C r R 1 (updv vs 0 v) w' := by
  refine ⟨.slice (some ⟨w.heap.size, 0, none⟩) 1 1, w.alloc (.cells #[bv (UInt8.ofNat r.length)] 5), ?_, w.heap.size, by simp [updv], (St.alloc hJ _).eq (sep_left_comm _ _ _)⟩
  simp [execOp, hop, hy, go_sem]
theorem AJ.e1 {a7 : Option Addr} {c7 : Nat} {C r : List UInt8} {ρ : Operand → Value} {o : Oper} {vs : Nat → Value} {w : World} {x y : Operand} (hop : o.op = .call { callee := .builtin .append, args := #[x, y], argTypes := #[23, 23] })
    (hx : ρ x = .slice a7 C.length c7) (hy : ρ y = vs 0) (hl : C.length ≤ 1000000) (hJ : AJ B w0 a7 c7 C r R 1 vs w) :
    ∃ v w', (execOp ρ o).run Try.prog w = .ok (.value v) w' ∧ AJ B w0 a7 c7 C r R 2 (updv vs 1 v) w' := by
  obtain ⟨g, e, s⟩ := hJ
  have hrd : Rd w (some ⟨g, 0, none⟩) (bvs [UInt8.ofNat r.length]) := (s.eq (sep_left_comm _ _ _)).rd 0 1
  obtain ⟨v', w', hr, s2, -⟩ := run_append_st (P := Try.prog) tB o.type s (some ⟨g, 0, none⟩) 1 1 (bvs [UInt8.ofNat r.length]) hrd (fun e => by cases e) (by simp) (bvs_one _) (by unfold maxLen; omega) (by omega)
  rw [show bvs C ++ bvs [UInt8.ofNat r.length] = bvs (C ++ [UInt8.ofNat r.length]) by simp [bvs]] at s2
  have s3 := (s2.eq (sep_left_comm _ _ _)).right
  have hl2 : C.length + 1 = (C ++ [UInt8.ofNat r.length]).length := by simp
  rw [hl2] at s3
  obtain ⟨a, c, rfl, -⟩ := s3.rowSlice
  refine ⟨.slice a (C ++ [UInt8.ofNat r.length]).length c, w', ?_, a, c, by simp [updv], s3⟩
  have hr' := hr
  simp at hr'
  simp [execOp, hop, resolve, invoke, builtin, hx, hy, e, hr', Result.andThen]
theorem AJ.e2 {a7 ar : Option Addr} {c7 cr : Nat} {C r : List UInt8} {ρ : Operand → Value} {o : Oper} {vs : Nat → Value} {w : World} {x y : Operand} (hop : o.op = .call { callee := .builtin .append, args := #[x, y], argTypes := #[23, 23] })
    (hx : ρ x = vs 1) (hy : ρ y = .slice ar r.length cr) (hl : C.length ≤ 1000000) (hr1 : r.length ≤ 1000000) (hb : ∀ w, Below B w0 w → BS w (.slice ar r.length cr) r) (hJ : AJ B w0 a7 c7 C r R 2 vs w) :
    ∃ v w', (execOp ρ o).run Try.prog w = .ok (.value v) w' ∧ AJ B w0 a7 c7 C r R 3 (updv vs 2 v) w' := by
  obtain ⟨a, c, e, s⟩ := hJ
  obtain ⟨-, h1, h2, h3, h4⟩ := (hb w s.below).rd
  obtain ⟨v', w', hr, s2, -⟩ := run_append_st (P := Try.prog) tB o.type s ar r.length cr (bvs r) h4 h3 (by simp) (bvs_one _) (by simp only [List.length_append, List.length_singleton]; unfold maxLen; omega) (by simp only [List.length_append, List.length_singleton]; omega)
  rw [show bvs (C ++ [UInt8.ofNat r.length]) ++ bvs r = bvs (C ++ [UInt8.ofNat r.length] ++ r) by simp [bvs], ← List.length_append] at s2
  obtain ⟨a3, c3, rfl, -⟩ := s2.rowSlice
  refine ⟨.slice a3 (C ++ [UInt8.ofNat r.length] ++ r).length c3, w', ?_, a3, c3, by simp [updv], s2⟩
  have hr' := hr
  simp at hr'
  simp [execOp, hop, resolve, invoke, builtin, hx, hy, e, hr', Result.andThen]
theorem AJ.e3 {a7 : Option Addr} {c7 : Nat} {C r : List UInt8} {ρ : Operand → Value} {o : Oper} {vs : Nat → Value} {w : World} {x : Operand} (hop : o.op = .assign x) (hx : ρ x = vs 2) (hJ : AJ B w0 a7 c7 C r R 3 vs w) :
    ∃ v w', (execOp ρ o).run Try.prog w = .ok (.value v) w' ∧ AJ B w0 a7 c7 C r R 4 (updv vs 3 v) w' := by
  obtain ⟨a, c, e, s⟩ := hJ
  refine ⟨.slice a (C ++ [UInt8.ofNat r.length] ++ r).length c, w, ?_, a, c, by simp [updv], s⟩
  simp [execOp, hop, hx, e]
end
theorem ofNat_mod (n : Nat) : bv (UInt8.ofNat n) = .int .u8 ((n : Int) % 256) := by
  show Value.int .u8 ((UInt8.ofNat n).toNat : Int) = _
  rw [UInt8.toNat_ofNat']
  congr 1
set_option maxRecDepth 100000 in
set_option maxHeartbeats 16000000 in
theorem tells_walk (a : Option Addr) (ca : Nat) (b : List UInt8) (A : Option Addr) (cA : Nat) (rs : List (List UInt8)) (cut : Int) (W : World) (hb : BS W (.slice a b.length ca) b) (_y : b.length * 1 ≤ 140737488351232) (hrs : BSS W (.slice A rs.length cA) rs) (_w : (Lit.int .i64 cut).wf = true) :
    Calls Try.prog 4 #[.slice a b.length ca, .slice A rs.length cA, .int .i64 cut] W fun e w' => e = .returned (.bool true) ∧ Below W.heap.size W w' := by
  have hca := hb.rd.2.1
  have hcm := hb.rd.2.2.1
  have hcA := hrs.open'.2.1
  have hcM := hrs.open'.2.2.1
  unfold maxLen at hcm hcM
  by_cases hl : 1000 < b.length ∨ 20 < rs.length
  · have hl' : (1000 : Int) < b.length ∨ ¬ (1000 : Int) < b.length ∧ (20 : Int) < rs.length := by omega
    clear hl hb hrs
    rcases hl' with h | ⟨h, h2⟩
    all_goals
      go_enter Try.func4, Try.ntmps4
      go_wp2_with fail
      refine (awake_calls _).mono ?_
      rintro e w2 ⟨rfl, h2⟩
      have HA := Lib.hid h2
      clear h2
      go_wp2_with fail
      go_ret
      exact ⟨rfl, HA.out⟩
  · have hl1 : ¬ (1000 : Int) < b.length := by omega
    have hl2 : ¬ (20 : Int) < rs.length := by omega
    have hl3 : rs.length ≤ 20 := by omega
    have hl4 : b.length ≤ 1000 := by omega
    clear hl
    have Hb := Lib.hid hb
    have Hrs := Lib.hid hrs
    clear hb hrs
    go_enter Try.func4, Try.ntmps4
    go_wp2_with fail
    go_loopw [7, 8] (fun v7 i wr => ∃ (k : Nat) (C : List UInt8) (a7 : Option Addr) (c7 : Nat), k ≤ rs.length ∧ i = .int .i64 k ∧ C.length ≤ 301 * k ∧ v7 = .slice a7 C.length c7 ∧ St W.heap.size W wr (row 5 1 (.slice a7 C.length c7) C.length (bvs C) * emp)) (fun _ i _ => rs.length - (intOf i).toNat)
    case atStart => exact ⟨0, [], none, 0, Nat.zero_le _, rfl, Nat.zero_le _, rfl, (St.init W).rowNil _ _⟩
    case round =>
      obtain ⟨k, C, a7, c7, hk, rfl, hC, rfl, s1⟩ := hrel
      by_cases hlt : k < rs.length
      · obtain ⟨-, -, -, -, us, hr, hlv, hbu⟩ := Hrs.out.open'
        obtain ⟨u, hu, hbu⟩ := hbu k hlt
        obtain ⟨ar, cr, rfl, -⟩ := id hbu
        obtain ⟨b1, o1, rfl, hc⟩ := hr.at (by rintro rfl; rw [List.length_nil] at hlv; omega)
        have hc0 := hc k _ hu
        have hcl : ∀ w, Below W.heap.size W w → w.cell? ⟨b1, o1 + k, none⟩ = some (.slice ar rs[k].length cr) := fun w h => Add.cell h hc0
        have hbs : ∀ w, Below W.heap.size W w → BS w (.slice ar rs[k].length cr) rs[k] := fun w h => hbu.below h
        have hcw := hcl wr s1.below
        generalize rs[k] = r at *
        have S1 := Lib.hid s1
        have Hcl := Lib.hid hcl
        have Hbs := Lib.hid hbs
        clear hcl hbs
        clear hr hlv hbu hc hu hc0 s1
        by_cases hr3 : 300 < r.length
        · have hr3' : (300 : Int) < (r.length : Int) := by omega
          go_wp2_with fail
          refine (awake_calls _).mono ?_
          rintro e w2 ⟨rfl, h2⟩
          have HA := Lib.hid (S1.out.keep h2)
          clear h2
          go_wp2_with fail
          go_ret
          exact ⟨rfl, HA.out.below⟩
        · have hr3' : ¬ (300 : Int) < (r.length : Int) := by omega
          have hbm := ofNat_mod r.length
          have Hbm := Lib.hid hbm
          clear hbm
          go_wp2_with fail
          refine wp_region_rv [44, 45, 50, 7] (AJ W.heap.size W a7 c7 C r emp) [7, 8, 13, 14] mixed (by kernel_rfl) (by kernel_rfl) rfl (fun _ => S1.out.drew) ?_
          have t1 : (k : Int) < (rs.length : Int) := by omega
          refine RXl.exact (.slice a7 C.length c7) rfl rfl rfl rfl rfl (fun _ _ _ _ _ => rfl) ?_
          refine RXl.exact (.slice (some ⟨b1, o1, none⟩) rs.length cA) rfl rfl rfl rfl rfl (fun _ _ _ _ _ => rfl) ?_
          refine RXl.exact (.int .i64 k) rfl rfl rfl rfl rfl (fun _ _ _ _ _ => rfl) ?_
          refine RXl.exact (.pointer (some ⟨b1, o1 + k, none⟩)) rfl rfl rfl rfl rfl (fun j τ w' hj hJ => (by obtain ⟨vs, hv, hJ⟩ := hJ; exact (by simp [rho, upd, Spec.val, execOp, go_sem, t1]))) ?_
          refine RXl.exact (.slice ar r.length cr) rfl rfl rfl rfl rfl (fun j τ w' hj hJ => (by obtain ⟨vs, hv, hJ⟩ := hJ; exact (by have c := Hcl.out _ hJ.below; simp [rho, upd, Spec.val, execOp, go_sem, c]))) ?_
          refine RXl.exact (.int .i64 r.length) rfl rfl rfl rfl rfl (fun j τ w' hj hJ => (by obtain ⟨vs, hv, hJ⟩ := hJ; exact (by simp [rho, upd, Spec.val, execOp, go_sem]))) ?_
          refine RXl.exact (bv (UInt8.ofNat r.length)) rfl rfl rfl rfl rfl (fun j τ w' hj hJ => (by obtain ⟨vs, hv, hJ⟩ := hJ; exact (by rw [Hbm.out]; simp [rho, upd, Spec.val, execOp, go_sem]; rfl))) ?_
          refine RXl.effV 0 44 rfl rfl rfl (Nat.le_of_ble_eq_true rfl) rfl rfl rfl rfl (fun ρ vs w hv hJ hag => AJ.e0 rfl (hag.ex 43 _ rfl rfl rfl) hJ) ?_
          refine RXl.effV 1 45 rfl rfl rfl (Nat.le_of_ble_eq_true rfl) rfl rfl rfl rfl (fun ρ vs w hv hJ hag => AJ.e1 rfl (hag.ex 37 _ rfl rfl rfl) (hv 0 44 (by decide) rfl) (by omega) hJ) ?_
          refine RXl.exact (.slice (some ⟨b1, o1, none⟩) rs.length cA) rfl rfl rfl rfl rfl (fun _ _ _ _ _ => rfl) ?_
          refine RXl.exact (.int .i64 k) rfl rfl rfl rfl rfl (fun _ _ _ _ _ => rfl) ?_
          refine RXl.exact (.pointer (some ⟨b1, o1 + k, none⟩)) rfl rfl rfl rfl rfl (fun j τ w' hj hJ => (by obtain ⟨vs, hv, hJ⟩ := hJ; exact (by simp [rho, upd, Spec.val, execOp, go_sem, t1]))) ?_
          refine RXl.exact (.slice ar r.length cr) rfl rfl rfl rfl rfl (fun j τ w' hj hJ => (by obtain ⟨vs, hv, hJ⟩ := hJ; exact (by have c := Hcl.out _ hJ.below; simp [rho, upd, Spec.val, execOp, go_sem, c]))) ?_
          refine RXl.effV 2 50 rfl rfl rfl (Nat.le_of_ble_eq_true rfl) rfl rfl rfl rfl (fun ρ vs w hv hJ hag => AJ.e2 rfl (hv 1 45 (by decide) rfl) (hag.ex 49 _ rfl rfl rfl) (by omega) (by omega) Hbs.out hJ) ?_
          refine RXl.effV 3 7 rfl rfl rfl (Nat.le_of_ble_eq_true rfl) rfl rfl rfl rfl (fun ρ vs w hv hJ hag => AJ.e3 rfl (hv 2 50 (by decide) rfl) hJ) ?_
          refine RXl.nilV _ (AgrL.unk 7 _ rfl (AgrL.unk 50 _ rfl (AgrL.upd _ _ (AgrL.upd _ _ (AgrL.upd _ _ (AgrL.upd _ _ (AgrL.unk 45 _ rfl (AgrL.unk 44 _ rfl (AgrL.upd _ _ (AgrL.upd _ _ (AgrL.upd _ _ (AgrL.upd _ _ (AgrL.upd _ _ (AgrL.upd _ _ (AgrL.upd _ _ (AgrL.base _)))))))))))))))) (by decide) (by decide) fun vs w8 hJ => ?_
          simp only [puts, Act.put, List.setIfInBounds_toArray, List.set_cons_succ, List.set_cons_zero]
          obtain ⟨a8, c8, e8, s8⟩ := hJ
          have hl8 : (C ++ [UInt8.ofNat r.length] ++ r).length ≤ 301 * (k + 1) := by simp; omega
          rw [e8]
          have S8 := Lib.hid s8
          generalize C ++ [UInt8.ofNat r.length] ++ r = C8 at *
          clear s8 e8 S1
          go_wp2_with fail
          go_roundw
          case rel => exact ⟨k + 1, C8, a8, c8, by omega, by go_num, hl8, rfl, S8.out⟩
          case measure => simp [intOf]; omega
      · obtain rfl : k = rs.length := by omega
        have hC1 : C.length ≤ 6020 := by omega
        have k2 := and_m16 cut
        obtain ⟨y, hy, hy2⟩ : ∃ y : Nat, cut % 65536 = (y : Int) ∧ y < 65536 := ⟨(cut % 65536).toNat, by omega, by omega⟩
        rw [hy] at k2
        obtain ⟨m, hm, hm2⟩ : ∃ m : Nat, (y : Int) % ((C.length : Int) + 1) = (m : Int) ∧ m ≤ C.length := by
          refine ⟨y % (C.length + 1), by rw [Int.natCast_emod, Int.natCast_add]; rfl, ?_⟩
          have := Nat.mod_lt y (show 0 < C.length + 1 by omega)
          omega
        have S1 := Lib.hid s1
        have Hy := Lib.hid hy
        have Hm := Lib.hid hm
        clear hy hm
        clear s1 hC
        go_wp2_with fail
        go_loopw [9] (fun i wr => (i = .int .i64 0 ∨ i = .int .i64 1 ∨ i = .int .i64 2) ∧ St W.heap.size W wr (row 5 1 (.slice a7 C.length c7) C.length (bvs C) * emp)) (fun i _ => 2 - (intOf i).toNat)
        case atStart => exact ⟨.inl rfl, S1.out⟩
        case round =>
          obtain ⟨hi, s1⟩ := hrel
          clear S1
          have hbc := s1.bs
          have hcc := hbc.rd.2.1
          have hcc2 := hbc.rd.2.2.1
          unfold maxLen at hcc2
          have hsl : ∀ w, (Instr.sliceAt 23 (.slice a7 C.length c7) none (some (.int .i64 (m : Int))) none).run Try.prog w = .ok (.slice a7 m c7) w := fun w => by
            have q := run_slice_sl tB w a7 C.length c7 none (some (.int .i64 (m : Int))) 0 m (.inl ⟨rfl, rfl⟩) (.inr ⟨_, rfl⟩) (Nat.zero_le _) (by omega)
            rw [q]; cases a7 <;> simp [Addr.add]
          have hbc2 : ∀ w H, St W.heap.size W w (H * (row 5 1 (.slice a7 C.length c7) C.length (bvs C) * emp)) → BS w (.slice a7 m c7) (C.take m) := fun w H s => by
            have q := ((s.eq (Q := row 5 1 (.slice a7 C.length c7) C.length (bvs C) * (H * emp)) (by ac_rfl)).bs).sub 0 m (Nat.zero_le _) hm2
            have e : subA a7 c7 0 1 = a7 := by unfold subA; cases a7 <;> simp [Addr.add]
            rw [e] at q
            simpa using q
          have hCm : (C.take m).length = m := by rw [List.length_take]; omega
          have hm := Hm.out
          have s2 := s1.alloc (.cells #[.slice a b.length ca, .slice a7 m c7] 23)
          have hXl : b.length ≤ 1000 := hl4
          have hm6 : m ≤ 6020 := by omega
          have Hsl := Lib.hid hsl
          have Hbc2 := Lib.hid hbc2
          have HCm := Lib.hid hCm
          clear hsl hbc2 hCm
          have hsl := Hsl.out
          have S2 := Lib.hid s2
          have S1 := Lib.hid s1
          clear s1 s2 hbc
          rcases hi with rfl | rfl | rfl
          · skip
            go_wp2_with fail
            clear hsl hm
            have q := split_calls a ca b _ (R := pts wr.heap.size (.cells #[.slice a b.length ca, .slice a7 m c7] 23) * (row 5 1 (.slice a7 C.length c7) C.length (bvs C) * emp)) (show Reads W.heap.size W _ (.slice a (b).length ca) b from (fun w H s => Hb.out.below s.below)) (by omega) S2.out
            rw [show (b).length = b.length from rfl] at q
            refine q.mono ?_
            rintro e w3 ⟨v3, vs3, rfl, hv3, s3⟩
            have hcv := run_str (P := Try.prog) Try.underlying23 Try.underlying5 Try.underlying9 ((fun w H s => Hb.out.below s.below) w3 (ob v3 vs3 (spl b)) s3)
            have S3 := Lib.hid s3
            clear s3 q hv3
            go_wp2_with fail
            clear hcv
            have Q4 := Lib.hid (rsplit_calls b w3 (by omega) S3.out)
            obtain ⟨a3, c3, rfl, -⟩ := ob_open S3.out
            have hso := spl_len b
            have hsl2 := jn_len_le (spl b)
            have hXb : (b).length ≤ 6020 := (by omega)
            refine Q4.out.mono ?_
            rintro e w4 ⟨v4, rfl, s4⟩
            have hsr := Lib.hid (fun (w' : World) (H : HP) (s : St W.heap.size W w' (H * (row 9 1 v4 (spl b).length (sv (spl b)) * (ob (.slice a3 (spl b).length c3) vs3 (spl b) * (pts wr.heap.size (.cells #[.slice a b.length ca, .slice a7 m c7] 23) * (row 5 1 (.slice a7 C.length c7) C.length (bvs C) * emp)))))) => ob_bss (R := H * (row 9 1 v4 (spl b).length (sv (spl b)) * (pts wr.heap.size (.cells #[.slice a b.length ca, .slice a7 m c7] 23) * (row 5 1 (.slice a7 C.length c7) C.length (bvs C) * emp)))) (v := .slice a3 (spl b).length c3) (vs := vs3) (l := spl b) (s.eq (by ac_rfl)))
            have Q5 := Lib.hid (strings_calls (.slice a3 (spl b).length c3) (spl b) w4 hsr.out (by omega) s4)
            obtain ⟨a4, c4, rfl, -⟩ := s4.rowSlice
            have e0 : (((jn (spl b)).length : Int) != (jn (spl b)).length) = false := by simp
            generalize (jn (spl b)).length = jl at *
            clear s4 hsr hso hsl2 S3
            go_wp2_with fail
            refine Q5.out.mono ?_
            rintro e w5 ⟨v5, rfl, s5⟩
            obtain ⟨a5, c5, rfl, -⟩ := s5.rowSlice
            have Q6 := Lib.hid (same_calls (.slice a5 (spl b).length c5) (.slice a4 (spl b).length c4) (spl b) (spl b) w5 (St.sl _ s5) (St.sl _ s5.right))
            have S5 := Lib.hid s5
            clear s5 Q5
            go_wp2_with fail
            refine Q6.out.mono ?_
            rintro e w6 ⟨he, hadd⟩
            obtain rfl : e = .returned (.bool true) := by simpa using he
            have S9 := Lib.hid (S5.out.keep hadd)
            clear hadd S5 Q6
            go_wp2_with fail
            go_roundw
            case rel => exact ⟨.inr (.inl rfl), (S9.out.right.right.right.right)⟩
            case measure => simp [intOf]
          · skip
            go_wp2_with fail
            clear hsl hm
            have q := split_calls a7 c7 (C.take m) _ (R := pts wr.heap.size (.cells #[.slice a b.length ca, .slice a7 m c7] 23) * (row 5 1 (.slice a7 C.length c7) C.length (bvs C) * emp)) (show Reads W.heap.size W _ (.slice a7 ((C.take m)).length c7) (C.take m) from (fun w H s => by rw [HCm.out]; exact Hbc2.out w (H * pts wr.heap.size (.cells #[.slice a b.length ca, .slice a7 m c7] 23)) (St.eq (sep_assoc _ _ _).symm s))) (by rw [HCm.out]; omega) S2.out
            rw [show ((C.take m)).length = m from HCm.out] at q
            refine q.mono ?_
            rintro e w3 ⟨v3, vs3, rfl, hv3, s3⟩
            have hcv := run_str (P := Try.prog) Try.underlying23 Try.underlying5 Try.underlying9 ((fun w H s => Hbc2.out w (H * pts wr.heap.size (.cells #[.slice a b.length ca, .slice a7 m c7] 23)) (St.eq (sep_assoc _ _ _).symm s)) w3 (ob v3 vs3 (spl (C.take m))) s3)
            have S3 := Lib.hid s3
            clear s3 q hv3
            go_wp2_with fail
            clear hcv
            have Q4 := Lib.hid (rsplit_calls (C.take m) w3 (by rw [HCm.out]; omega) S3.out)
            obtain ⟨a3, c3, rfl, -⟩ := ob_open S3.out
            have hso := spl_len (C.take m)
            have hsl2 := jn_len_le (spl (C.take m))
            have hXb : ((C.take m)).length ≤ 6020 := (by rw [HCm.out]; omega)
            refine Q4.out.mono ?_
            rintro e w4 ⟨v4, rfl, s4⟩
            have hsr := Lib.hid (fun (w' : World) (H : HP) (s : St W.heap.size W w' (H * (row 9 1 v4 (spl (C.take m)).length (sv (spl (C.take m))) * (ob (.slice a3 (spl (C.take m)).length c3) vs3 (spl (C.take m)) * (pts wr.heap.size (.cells #[.slice a b.length ca, .slice a7 m c7] 23) * (row 5 1 (.slice a7 C.length c7) C.length (bvs C) * emp)))))) => ob_bss (R := H * (row 9 1 v4 (spl (C.take m)).length (sv (spl (C.take m))) * (pts wr.heap.size (.cells #[.slice a b.length ca, .slice a7 m c7] 23) * (row 5 1 (.slice a7 C.length c7) C.length (bvs C) * emp)))) (v := .slice a3 (spl (C.take m)).length c3) (vs := vs3) (l := spl (C.take m)) (s.eq (by ac_rfl)))
            have Q5 := Lib.hid (strings_calls (.slice a3 (spl (C.take m)).length c3) (spl (C.take m)) w4 hsr.out (by omega) s4)
            obtain ⟨a4, c4, rfl, -⟩ := s4.rowSlice
            have e0 : (((jn (spl (C.take m))).length : Int) != (jn (spl (C.take m))).length) = false := by simp
            generalize (jn (spl (C.take m))).length = jl at *
            clear s4 hsr hso hsl2 S3
            go_wp2_with fail
            refine Q5.out.mono ?_
            rintro e w5 ⟨v5, rfl, s5⟩
            obtain ⟨a5, c5, rfl, -⟩ := s5.rowSlice
            have Q6 := Lib.hid (same_calls (.slice a5 (spl (C.take m)).length c5) (.slice a4 (spl (C.take m)).length c4) (spl (C.take m)) (spl (C.take m)) w5 (St.sl _ s5) (St.sl _ s5.right))
            have S5 := Lib.hid s5
            clear s5 Q5
            go_wp2_with fail
            refine Q6.out.mono ?_
            rintro e w6 ⟨he, hadd⟩
            obtain rfl : e = .returned (.bool true) := by simpa using he
            have S9 := Lib.hid (S5.out.keep hadd)
            clear hadd S5 Q6
            go_wp2_with fail
            go_roundw
            case rel => exact ⟨.inr (.inr rfl), (S9.out.right.right.right.right)⟩
            case measure => simp [intOf]
          · clear hsl hm
            go_wp2_with fail
            refine (awake_calls _).mono ?_
            rintro e w2 ⟨rfl, h2⟩
            have HA := Lib.hid (S1.out.keep h2)
            clear h2
            go_wp2_with fail
            go_ret
            exact ⟨rfl, HA.out.below⟩
end Go.Proofs.Ytkkkncchinejmaa.TrL
