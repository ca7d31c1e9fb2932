/- The document's trio, walked: join. -/
import Derived.Test.YtkkkncchinejmaaTrV
namespace Go.Proofs.Ytkkkncchinejmaa.TrV
open Go Go.RowKit Go.Proofs.Ytkkkncchinejmaa Go.Proofs.Ytkkkncchinejmaa.Sp Go.Proofs.Ytkkkncchinejmaa.Reg Go.Proofs.Ytkkkncchinejmaa.SlW Go.Proofs.Ytkkkncchinejmaa.Fus Go.Proofs.Ytkkkncchinejmaa.TrM Go.Proofs.Ytkkkncchinejmaa.TapW Go.Proofs.Ytkkkncchinejmaa.TrW Go.Proofs.Ytkkkncchinejmaa.Str
theorem build_bs {P : Program} {ρ : Operand → Value} {o : Oper} {w : World} {t e : TypeId} {k : Nat} {ps : Array (Nat × Operand)} (hop : o.op = .buildSlice t k ps) (bs : List UInt8)
    (hrun : ∀ w, (Instr.buildSlice t k (ps.map fun (i, x) => (i, ρ x))).run P w = .ok (.slice (some ⟨w.heap.size, 0, none⟩) bs.length bs.length) (w.alloc (.cells (bvs bs).toArray e)))
    (hm : bs.length ≤ maxLen) :
    ∃ v w', (execOp ρ o).run P w = .ok (.value v) w' ∧ Add w w' ∧ (Spec.so fun v w => BS w v bs).holds v w' := by
  refine ⟨.slice (some ⟨w.heap.size, 0, none⟩) bs.length bs.length, w.alloc (.cells (bvs bs).toArray e), by simp only [execOp, hop]; simp [hrun, Result.andThen], Add.alloc _ _, ?_⟩
  exact BS.lit w bs e (0, 0) hm
theorem txt (x y : List UInt8) : (⟨x.toArray⟩ : ByteArray) ++ ⟨y.toArray⟩ = ⟨(x ++ y).toArray⟩ := ByteArray.mk_append_mk x y
theorem arr27 (tm : Array Value) (h : tm.size = 27) : ∃ u0 u1 u2 u3 u4 u5 u6 u7 u8 u9 u10 u11 u12 u13 u14 u15 u16 u17 u18 u19 u20 u21 u22 u23 u24 u25 u26, tm = #[u0, u1, u2, u3, u4, u5, u6, u7, u8, u9, u10, u11, u12, u13, u14, u15, u16, u17, u18, u19, u20, u21, u22, u23, u24, u25, u26] := by
  obtain ⟨l0⟩ := tm
  have h0 : l0.length = 27 := h
  clear h
  obtain ⟨u0, l1, rfl, h1⟩ := take1 h0
  clear h0
  obtain ⟨u1, l2, rfl, h2⟩ := take1 h1
  clear h1
  obtain ⟨u2, l3, rfl, h3⟩ := take1 h2
  clear h2
  obtain ⟨u3, l4, rfl, h4⟩ := take1 h3
  clear h3
  obtain ⟨u4, l5, rfl, h5⟩ := take1 h4
  clear h4
  obtain ⟨u5, l6, rfl, h6⟩ := take1 h5
  clear h5
  obtain ⟨u6, l7, rfl, h7⟩ := take1 h6
  clear h6
  obtain ⟨u7, l8, rfl, h8⟩ := take1 h7
  clear h7
  obtain ⟨u8, l9, rfl, h9⟩ := take1 h8
  clear h8
  obtain ⟨u9, l10, rfl, h10⟩ := take1 h9
  clear h9
  obtain ⟨u10, l11, rfl, h11⟩ := take1 h10
  clear h10
  obtain ⟨u11, l12, rfl, h12⟩ := take1 h11
  clear h11
  obtain ⟨u12, l13, rfl, h13⟩ := take1 h12
  clear h12
  obtain ⟨u13, l14, rfl, h14⟩ := take1 h13
  clear h13
  obtain ⟨u14, l15, rfl, h15⟩ := take1 h14
  clear h14
  obtain ⟨u15, l16, rfl, h16⟩ := take1 h15
  clear h15
  obtain ⟨u16, l17, rfl, h17⟩ := take1 h16
  clear h16
  obtain ⟨u17, l18, rfl, h18⟩ := take1 h17
  clear h17
  obtain ⟨u18, l19, rfl, h19⟩ := take1 h18
  clear h18
  obtain ⟨u19, l20, rfl, h20⟩ := take1 h19
  clear h19
  obtain ⟨u20, l21, rfl, h21⟩ := take1 h20
  clear h20
  obtain ⟨u21, l22, rfl, h22⟩ := take1 h21
  clear h21
  obtain ⟨u22, l23, rfl, h23⟩ := take1 h22
  clear h22
  obtain ⟨u23, l24, rfl, h24⟩ := take1 h23
  clear h23
  obtain ⟨u24, l25, rfl, h25⟩ := take1 h24
  clear h24
  obtain ⟨u25, l26, rfl, h26⟩ := take1 h25
  clear h25
  obtain ⟨u26, l27, rfl, h27⟩ := take1 h26
  clear h26
  obtain rfl : l27 = [] := List.eq_nil_of_length_eq_zero h27
  exact ⟨_, _, _, _, _, _, _, _, _, _, _, _, _, _, _, _, _, _, _, _, _, _, _, _, _, _, _, rfl⟩
set_option maxRecDepth 100000 in
set_option maxHeartbeats 4000000 in
/-- Records as bytes. -/
theorem rjoin_calls (A1 : Option Addr) (c1 : Nat) (l : List (List UInt8)) (hok : ∀ r ∈ l, okr r) (hm : (jn l).length ≤ 1000000) (w : World) (h1 : SL w (.slice A1 l.length c1) l) :
    Calls Try.prog 57 #[.slice A1 l.length c1] w fun e w' => e = .returned (str (jn l)) ∧ Add w w' := by
  obtain ⟨_, _, e, hq1, hq2, hq3, -⟩ := id h1
  cases e
  unfold maxLen at hq2
  have H1 := Lib.hid h1
  clear h1
  go_enter Try.func57, Try.ntmps57
  go_wp2_with fail
  go_loopw [3, 4] (fun v3 i wr => ∃ k : Nat, k ≤ l.length ∧ v3 = str (jn (l.take k)) ∧ i = .int .i64 k ∧ Add w wr) (fun _ i _ => l.length - (intOf i).toNat)
  case atStart => exact ⟨0, Nat.zero_le _, rfl, rfl, Add.refl w⟩
  case round =>
    obtain ⟨k, hk, rfl, rfl, hadd⟩ := hrel
    by_cases hlt : k < l.length
    · obtain ⟨b1, o1, rfl, -⟩ := H1.out.at k hlt
      have hc1 : ∀ w', Add w w' → w'.cell? ⟨b1, o1 + k, none⟩ = some (str l[k]) := fun w' h => by
        obtain ⟨_, _, e, hc⟩ := H1.out.at k hlt
        cases e
        exact h.cell hc
      have t1 : (k : Int) < (l.length : Int) := by omega
      have hr := hok _ (List.getElem_mem hlt)
      have hsu : jn (l.take (k + 1)) = jn (l.take k) ++ [UInt8.ofNat l[k].length] ++ l[k] := by
        rw [List.take_succ_eq_append_getElem hlt, jn_append, jn_one, List.append_assoc]
        rfl
      have hjl := jn_take_le l k
      generalize jn (l.take k) = s at *
      generalize l[k] = r at *
      have hr2 := hr.2
      have hsz : (⟨r.toArray⟩ : ByteArray).size = r.length := by simp [ByteArray.size]
      have elen : Value.int .u8 (r.length : Int) = bv (UInt8.ofNat r.length) := by unfold bv; rw [UInt8.toNat_ofNat', Nat.mod_eq_of_lt (by omega)]
      have HE := Lib.hid elen
      have hcw := hc1
      have hA2 := hadd
      have Hc1 := Lib.hid hc1
      have Hadd := Lib.hid hadd
      have Hsu := Lib.hid hsu
      have Hsz := Lib.hid hsz
      clear hc1 hadd hsu hsz
      clear hcw hA2 elen
      go_wp2_with fail
      refine wp_region_rs mixed (by kernel_rfl) ?_
      refine RSl.exact (str s) rfl rfl rfl rfl (fun _ _ => rfl) ?_
      refine RSl.exact (.slice (some ⟨b1, o1, none⟩) l.length c1) rfl rfl rfl rfl (fun _ _ => rfl) ?_
      refine RSl.exact (.int .i64 ↑k) rfl rfl rfl rfl (fun _ _ => rfl) ?_
      refine RSl.exact (.pointer (some ⟨b1, o1 + k, none⟩)) rfl rfl rfl rfl (fun w' ha => by simp [rho, upd, Spec.val, execOp, go_sem, t1]) ?_
      refine RSl.exact (str r) rfl rfl rfl rfl (fun w' ha => by have c := Hc1.out _ (Hadd.out.trans ha); simp [rho, upd, Spec.val, execOp, go_sem, c]) ?_
      refine RSl.exact (.int .i64 ↑r.length) rfl rfl rfl rfl (fun w' ha => by have c := Hsz.out; simp [rho, upd, Spec.val, execOp, go_sem, c]) ?_
      refine RSl.exact (.int .u8 ↑r.length) rfl rfl rfl rfl (fun w' ha => by simp [rho, upd, Spec.val, execOp, go_sem]; rw [IntKind.wrap_u8]; omega) ?_
      refine RSl.value (.so (fun v w => BS w v [UInt8.ofNat r.length])) (Stab.bs _) rfl rfl rfl (fun ρ w' ha hag => build_bs (e := 5) rfl [UInt8.ofNat r.length] (fun w => by have e17 := hag.ex 17 (.int .u8 ↑r.length) rfl rfl rfl; rw [HE.out] at e17; simp [e17, go_sem]) (by simp [maxLen])) ?_
      refine RSl.value (.ex (str [UInt8.ofNat r.length])) (Stab.ex _) rfl rfl rfl (fun ρ w' ha hag => ⟨_, w', exec_convert rfl (by have q := hag.so 18 _ rfl rfl rfl; have q2 := q; obtain ⟨a, c, e, -⟩ := q2; rw [e] at q ⊢; exact run_str Try.underlying23 Try.underlying5 Try.underlying9 q), Add.refl w', rfl⟩) ?_
      refine RSl.exact (str (s ++ [UInt8.ofNat r.length])) rfl rfl rfl rfl (fun w' ha => by simp [rho, upd, Spec.val, execOp, go_sem, txt]; omega) ?_
      refine RSl.exact (.slice (some ⟨b1, o1, none⟩) l.length c1) rfl rfl rfl rfl (fun _ _ => rfl) ?_
      refine RSl.exact (.int .i64 ↑k) rfl rfl rfl rfl (fun _ _ => rfl) ?_
      refine RSl.exact (.pointer (some ⟨b1, o1 + k, none⟩)) rfl rfl rfl rfl (fun w' ha => by simp [rho, upd, Spec.val, execOp, go_sem, t1]) ?_
      refine RSl.exact (str r) rfl rfl rfl rfl (fun w' ha => by have c := Hc1.out _ (Hadd.out.trans ha); simp [rho, upd, Spec.val, execOp, go_sem, c]) ?_
      refine RSl.exact (str (s ++ [UInt8.ofNat r.length] ++ r)) rfl rfl rfl rfl (fun w' ha => by simp [rho, upd, Spec.val, execOp, go_sem, txt]; omega) ?_
      refine RSl.exact (str (s ++ [UInt8.ofNat r.length] ++ r)) rfl rfl rfl rfl (fun _ _ => rfl) ?_
      refine RSl.nil fun a' w1 ha hd hs hh => ?_
      have HA := Lib.hid (Hadd.out.trans ha)
      clear ha
      obtain ⟨tm, df⟩ := a'
      replace hd : df = [] := hd
      subst hd
      obtain ⟨u0, u1, u2, u3, u4, u5, u6, u7, u8, u9, u10, u11, u12, u13, u14, u15, u16, u17, u18, u19, u20, u21, u22, u23, u24, u25, u26, rfl⟩ := arr27 tm hs
      obtain rfl : u0 = .slice (some ⟨b1, o1, none⟩) l.length c1 := hh 0 (by simp)
      obtain rfl : u1 = undef := hh 1 (by simp)
      obtain rfl : u2 = .string ⟨#[]⟩ := hh 2 (by simp)
      obtain rfl : u26 = undef := hh 26 (by simp)
      obtain rfl : u3 = str (s ++ [UInt8.ofNat r.length] ++ r) := hh 3 (by simp)
      obtain rfl : u4 = .int .i64 ↑k := hh 4 (by simp)
      clear hh hs
      go_wp2_with fail
      go_roundw
      case rel => exact ⟨k + 1, by omega, by rw [Hsu.out], by go_num, HA.out⟩
      case measure => simp [intOf]; omega
    · obtain rfl : k = l.length := by omega
      rw [List.take_length]
      have HA := Lib.hid hadd
      clear hadd
      go_wp2_with fail
      go_ret
      exact ⟨rfl, HA.out⟩
end Go.Proofs.Ytkkkncchinejmaa.TrV
