/- The walks of hypocaustref7.four, Frame. -/
import Derived.Test.YtgpeckaimkbmoaaFrmW5
namespace Go.Proofs.Ytgpeckaimkbmoaa.FrmW
open Go Go.RowKit Go.Proofs.Ytgpeckaimkbmoaa Go.Proofs.Ytgpeckaimkbmoaa.Sp Go.Proofs.Ytgpeckaimkbmoaa.Reg Go.Proofs.Ytgpeckaimkbmoaa.CrcW Go.Proofs.Ytgpeckaimkbmoaa.CrcM
open Go.Proofs.Ytgpeckaimkbmoaa.SlW (RetBS RetBSok RetNo)

set_option maxHeartbeats 800000 in
theorem rfour_calls (x : Nat) (hx : x < 4294967296) (w : World) : Calls Try.prog 43 #[.int .i64 (x : Int)] w fun e w' => e = .returned (str (be4 x)) ∧ Add w w' := by
  have hb : ∀ k, bv (be x k) = .int .u8 ((x / 2 ^ (8 * (3 - k)) % 256 : Nat) : Int) := be_val x
  have e0 : (Value.int .u8 ((x : Int) / 16777216)) = .int .u8 ((be x 0).toNat : Int) := by rw [show Value.int .u8 ((be x 0).toNat : Int) = bv (be x 0) from rfl, hb]; exact congrArg (Value.int .u8) (by omega)
  have e1 : (Value.int .u8 ((x : Int) / 65536 % 256)) = .int .u8 ((be x 1).toNat : Int) := by rw [show Value.int .u8 ((be x 1).toNat : Int) = bv (be x 1) from rfl, hb]; exact congrArg (Value.int .u8) (by omega)
  have e2 : (Value.int .u8 ((x : Int) / 256 % 256)) = .int .u8 ((be x 2).toNat : Int) := by rw [show Value.int .u8 ((be x 2).toNat : Int) = bv (be x 2) from rfl, hb]; exact congrArg (Value.int .u8) (by omega)
  have e3 : (Value.int .u8 ((x : Int) % 256)) = .int .u8 ((be x 3).toNat : Int) := by rw [show Value.int .u8 ((be x 3).toNat : Int) = bv (be x 3) from rfl, hb]; exact congrArg (Value.int .u8) (by omega)
  have hcv : (convert 22 9 (.slice (some ⟨w.heap.size, 0, none⟩) 4 4)).run Try.prog (w.alloc (.cells #[.int .u8 ((be x 0).toNat : Int), .int .u8 ((be x 1).toNat : Int), .int .u8 ((be x 2).toNat : Int), .int .u8 ((be x 3).toNat : Int)] 5)) = .ok (str (be4 x)) _ :=
    run_str Try.underlying22 Try.underlying5 Try.underlying9 (BS.lit w (be4 x) 5 (0, 0) (by simp [be4, maxLen]))
  clear hb
  generalize be4 x = Y at hcv ⊢
  generalize ((be x 0).toNat : Int) = y0 at e0 hcv
  generalize ((be x 1).toNat : Int) = y1 at e1 hcv
  generalize ((be x 2).toNat : Int) = y2 at e2 hcv
  generalize ((be x 3).toNat : Int) = y3 at e3 hcv
  go_enter Try.func43, Try.ntmps43
  go_wp2_with fail
  go_ret
  exact ⟨rfl, Add.alloc w _⟩
/-- A slice of bytes, written out. -/
theorem build_bs {P : Program} {ρ : Operand → Value} {o : Oper} {w : World} {t e : TypeId} {k : Nat} {ps : Array (Nat × Operand)} (hop : o.op = .buildSlice t k ps) (bs : List UInt8)
    (hrun : ∀ w, (Instr.buildSlice t k (ps.map fun (i, x) => (i, ρ x))).run P w = .ok (.slice (some ⟨w.heap.size, 0, none⟩) bs.length bs.length) (w.alloc (.cells (bvs bs).toArray e)))
    (hm : bs.length ≤ maxLen) :
    ∃ v w', (execOp ρ o).run P w = .ok (.value v) w' ∧ Add w w' ∧ (Spec.so fun v w => BS w v bs).holds v w' := by
  refine ⟨.slice (some ⟨w.heap.size, 0, none⟩) bs.length bs.length, w.alloc (.cells (bvs bs).toArray e), by simp only [execOp, hop]; simp [hrun, Result.andThen], Add.alloc _ _, ?_⟩
  exact BS.lit w bs e (0, 0) hm
theorem txt (x y : List UInt8) : (⟨x.toArray⟩ : ByteArray) ++ ⟨y.toArray⟩ = ⟨(x ++ y).toArray⟩ := ByteArray.mk_append_mk x y
theorem arr43 (tm : Array Value) (h : tm.size = 43) : ∃ u0 u1 u2 u3 u4 u5 u6 u7 u8 u9 u10 u11 u12 u13 u14 u15 u16 u17 u18 u19 u20 u21 u22 u23 u24 u25 u26 u27 u28 u29 u30 u31 u32 u33 u34 u35 u36 u37 u38 u39 u40 u41 u42, tm = #[u0, u1, u2, u3, u4, u5, u6, u7, u8, u9, u10, u11, u12, u13, u14, u15, u16, u17, u18, u19, u20, u21, u22, u23, u24, u25, u26, u27, u28, u29, u30, u31, u32, u33, u34, u35, u36, u37, u38, u39, u40, u41, u42] := by
  obtain ⟨l0⟩ := tm
  have h0 : l0.length = 43 := h
  clear h
  obtain ⟨u0, l1, rfl, h1⟩ := take1 h0
  clear h0
  obtain ⟨u1, l2, rfl, h2⟩ := take1 h1
  clear h1
  obtain ⟨u2, l3, rfl, h3⟩ := take1 h2
  clear h2
  obtain ⟨u3, l4, rfl, h4⟩ := take1 h3
  clear h3
  obtain ⟨u4, l5, rfl, h5⟩ := take1 h4
  clear h4
  obtain ⟨u5, l6, rfl, h6⟩ := take1 h5
  clear h5
  obtain ⟨u6, l7, rfl, h7⟩ := take1 h6
  clear h6
  obtain ⟨u7, l8, rfl, h8⟩ := take1 h7
  clear h7
  obtain ⟨u8, l9, rfl, h9⟩ := take1 h8
  clear h8
  obtain ⟨u9, l10, rfl, h10⟩ := take1 h9
  clear h9
  obtain ⟨u10, l11, rfl, h11⟩ := take1 h10
  clear h10
  obtain ⟨u11, l12, rfl, h12⟩ := take1 h11
  clear h11
  obtain ⟨u12, l13, rfl, h13⟩ := take1 h12
  clear h12
  obtain ⟨u13, l14, rfl, h14⟩ := take1 h13
  clear h13
  obtain ⟨u14, l15, rfl, h15⟩ := take1 h14
  clear h14
  obtain ⟨u15, l16, rfl, h16⟩ := take1 h15
  clear h15
  obtain ⟨u16, l17, rfl, h17⟩ := take1 h16
  clear h16
  obtain ⟨u17, l18, rfl, h18⟩ := take1 h17
  clear h17
  obtain ⟨u18, l19, rfl, h19⟩ := take1 h18
  clear h18
  obtain ⟨u19, l20, rfl, h20⟩ := take1 h19
  clear h19
  obtain ⟨u20, l21, rfl, h21⟩ := take1 h20
  clear h20
  obtain ⟨u21, l22, rfl, h22⟩ := take1 h21
  clear h21
  obtain ⟨u22, l23, rfl, h23⟩ := take1 h22
  clear h22
  obtain ⟨u23, l24, rfl, h24⟩ := take1 h23
  clear h23
  obtain ⟨u24, l25, rfl, h25⟩ := take1 h24
  clear h24
  obtain ⟨u25, l26, rfl, h26⟩ := take1 h25
  clear h25
  obtain ⟨u26, l27, rfl, h27⟩ := take1 h26
  clear h26
  obtain ⟨u27, l28, rfl, h28⟩ := take1 h27
  clear h27
  obtain ⟨u28, l29, rfl, h29⟩ := take1 h28
  clear h28
  obtain ⟨u29, l30, rfl, h30⟩ := take1 h29
  clear h29
  obtain ⟨u30, l31, rfl, h31⟩ := take1 h30
  clear h30
  obtain ⟨u31, l32, rfl, h32⟩ := take1 h31
  clear h31
  obtain ⟨u32, l33, rfl, h33⟩ := take1 h32
  clear h32
  obtain ⟨u33, l34, rfl, h34⟩ := take1 h33
  clear h33
  obtain ⟨u34, l35, rfl, h35⟩ := take1 h34
  clear h34
  obtain ⟨u35, l36, rfl, h36⟩ := take1 h35
  clear h35
  obtain ⟨u36, l37, rfl, h37⟩ := take1 h36
  clear h36
  obtain ⟨u37, l38, rfl, h38⟩ := take1 h37
  clear h37
  obtain ⟨u38, l39, rfl, h39⟩ := take1 h38
  clear h38
  obtain ⟨u39, l40, rfl, h40⟩ := take1 h39
  clear h39
  obtain ⟨u40, l41, rfl, h41⟩ := take1 h40
  clear h40
  obtain ⟨u41, l42, rfl, h42⟩ := take1 h41
  clear h41
  obtain ⟨u42, l43, rfl, h43⟩ := take1 h42
  clear h42
  obtain rfl : l43 = [] := List.eq_nil_of_length_eq_zero h43
  exact ⟨_, _, _, _, _, _, _, _, _, _, _, _, _, _, _, _, _, _, _, _, _, _, _, _, _, _, _, _, _, _, _, _, _, _, _, _, _, _, _, _, _, _, _, rfl⟩
set_option maxHeartbeats 1600000 in
theorem rframe_yes (id : Nat) (hid : id < 4294967296) (data : List UInt8) (hdl : data.length ≤ 64) (w : World) :
    Calls Try.prog 27 #[.int .i64 (id : Int), str data] w fun e w' => e = .returned (.tuple #[str (frm id data), .bool true]) ∧ Add w w' := by
  have hsz : (⟨data.toArray⟩ : ByteArray).size = data.length := by simp [ByteArray.size]
  have elen : Value.int .u8 (data.length : Int) = bv (UInt8.ofNat data.length) := by unfold bv; rw [UInt8.toNat_ofNat', Nat.mod_eq_of_lt (by omega)]
  have HE := Lib.hid elen
  have HF := Lib.hid (frm_eq id data)
  have HH := Lib.hid (show [183, UInt8.ofNat data.length, 0, 0] ++ be4 id = hd8 id data.length from rfl)
  have HC := Lib.hid (show chk id data = (sum (hd8 id data.length ++ data)).toNat from rfl)
  clear elen
  go_enter Try.func27, Try.ntmps27
  go_wp2_with fail
  refine wp_region_rs mixed (by kernel_rfl) ?_
  refine RSl.exact (str data) rfl rfl rfl rfl (fun _ _ => rfl) ?_
  refine RSl.exact (.int .i64 ↑data.length) rfl rfl rfl rfl (fun w' ha => by simp [rho, upd, Spec.val, execOp, go_sem, hsz]) ?_
  refine RSl.exact (.int .u8 ↑data.length) rfl rfl rfl rfl (fun w' ha => by simp [rho, upd, Spec.val, execOp, go_sem]; rw [IntKind.wrap_u8]; omega) ?_
  refine RSl.value (.so (fun v w => BS w v [183, UInt8.ofNat data.length, 0, 0])) (Stab.bs _) rfl rfl rfl (fun ρ w' ha hag => build_bs (e := 5) rfl [183, UInt8.ofNat data.length, 0, 0] (fun w => by have e20 := hag.ex 20 (.int .u8 ↑data.length) rfl rfl rfl; rw [HE.out] at e20; simp [e20, hag.2.1, go_sem]; rfl) (by simp [maxLen])) ?_
  refine RSl.value (.ex (str [183, UInt8.ofNat data.length, 0, 0])) (Stab.ex _) rfl rfl rfl (fun ρ w' ha hag => ⟨_, w', exec_convert rfl (by have q := hag.so 21 _ rfl rfl rfl; have q2 := q; obtain ⟨a, c, e, -⟩ := q2; rw [e] at q ⊢; exact run_str Try.underlying22 Try.underlying5 Try.underlying9 q), Add.refl w', rfl⟩) ?_
  refine RSl.exact (.int .i64 ↑id) rfl rfl rfl rfl (fun _ _ => rfl) ?_
  refine RSl.callx (str (be4 id)) _ [.int .i64 ↑id] [.tmp 23] _ rfl rfl rfl rfl rfl (fun _ => rfl) (fun w' ha => rfour_calls id hid w') ?_
  refine RSl.exact (str (hd8 id data.length)) rfl rfl rfl rfl (fun w' ha => by simp [rho, upd, Spec.val, execOp, go_sem, ← HH.out, txt]; have hb4 : (be4 id).length = 4 := rfl; omega) ?_
  refine RSl.exact (str (hd8 id data.length)) rfl rfl rfl rfl (fun _ _ => rfl) ?_
  refine RSl.nil fun a' w1 ha hd hs hh => ?_
  have HA := Lib.hid ha
  clear ha
  obtain ⟨tm, df⟩ := a'
  replace hd : df = [] := hd
  subst hd
  obtain ⟨u0, u1, u2, u3, u4, u5, u6, u7, u8, u9, u10, u11, u12, u13, u14, u15, u16, u17, u18, u19, u20, u21, u22, u23, u24, u25, u26, u27, u28, u29, u30, u31, u32, u33, u34, u35, u36, u37, u38, u39, u40, u41, u42, rfl⟩ := arr43 tm hs
  obtain rfl : u0 = .int .i64 ↑id := hh 0 (by simp)
  obtain rfl : u1 = str data := hh 1 (by simp)
  obtain rfl : u6 = str (hd8 id data.length) := hh 6 (by simp)
  clear hh hs
  have hH : (hd8 id data.length).length = 8 := rfl
  have hlt : chk id data < 4294967296 := by unfold chk; exact (sum (hd8 id data.length ++ data)).isLt
  have hb4 : (be4 (chk id data)).length = 4 := rfl
  have rs : ∀ w, Calls Try.prog 18 #[str (hd8 id data.length ++ data)] w fun e w' => e = .returned (.int .u32 (chk id data : Int)) ∧ Add w w' := fun w => refSum_callsL (hd8 id data.length ++ data) w (by rw [List.length_append, hH]; unfold maxLen; omega)
  have HRS := Lib.hid rs
  have HR4 := Lib.hid (fun w => rfour_calls (chk id data) hlt w)
  clear rs HH HE HC
  generalize hd8 id data.length = H at HF hH HRS ⊢
  generalize be4 (chk id data) = C4 at HF hb4 HR4
  generalize chk id data = x at hlt HRS HR4
  have hs1 : H.length + data.length ≤ 72 := by omega
  have hs2 : H.length + C4.length ≤ 12 := by omega
  have hs3 : H.length + (C4.length + data.length) ≤ 76 := by omega
  obtain ⟨z, hz, hz1, hz2⟩ : ∃ z : Nat, (96 : Int) - (8 + (4 + (data.length : Int))) = (z : Int) ∧ z ≤ 96 ∧ 84 - data.length = z := ⟨84 - data.length, by omega, by omega, rfl⟩
  have htxt := txt
  go_wp2_with fail
  refine (HRS.out w1).mono ?_
  rintro e w2 ⟨rfl, h2⟩
  have H2 := Lib.hid (HA.out.trans h2)
  clear h2
  go_wp2_with fail
  refine (HR4.out w2).mono ?_
  rintro e w3 ⟨rfl, h3⟩
  have H3 := Lib.hid (H2.out.trans h3)
  clear h3
  rw [hz2] at HF
  have hs4 : H.length + (C4.length + (data.length + z)) ≤ 96 := by omega
  have hs5 : (List.replicate z (0 : UInt8)).length = z := List.length_replicate
  go_wp2_with (at_make; go_must (refine wpl_make1 rfl _ _ rfl tB rfl (St.init w3) .i64 .i64 z z rfl rfl (Nat.le_refl _) (by unfold maxLen; omega) (by omega) ?_); intro g w4 s4; rw [bvs_zeros] at s4; have h4 : Add w3 w4 := s4.below; have H4 := Lib.hid (H3.out.trans h4); have hcv := run_str (P := Try.prog) Try.underlying22 Try.underlying5 Try.underlying9 s4.bs; clear h4 s4; generalize List.replicate z (0 : UInt8) = Z at hcv hs5 HF)
  go_ret2
  refine ⟨?_, H4.out⟩
  rw [HF.out]
  simp [str]
set_option maxHeartbeats 400000 in
theorem rframe_no (id : Int) (data : List UInt8) (hm : data.length ≤ 1000) (w : World) (h : ¬ (0 ≤ id ∧ id ≤ 4294967295 ∧ data.length ≤ 64)) :
    Calls Try.prog 27 #[.int .i64 id, str data] w fun e w' => e = .returned (.tuple #[.string ⟨#[]⟩, .bool false]) ∧ Add w w' := by
  have hsz : (⟨data.toArray⟩ : ByteArray).size = data.length := by simp [ByteArray.size]
  by_cases h1 : id < 0
  · clear h
    go_enter Try.func27, Try.ntmps27
    go_wp2_with fail
    go_ret2
    exact ⟨rfl, Add.refl w⟩
  · by_cases h2 : 4294967295 < id
    · clear h
      go_enter Try.func27, Try.ntmps27
      go_wp2_with fail
      go_ret2
      exact ⟨rfl, Add.refl w⟩
    · have h3 : 64 < data.length := by omega
      clear h
      go_enter Try.func27, Try.ntmps27
      go_wp2_with fail
      go_ret2
      exact ⟨rfl, Add.refl w⟩
end Go.Proofs.Ytgpeckaimkbmoaa.FrmW
