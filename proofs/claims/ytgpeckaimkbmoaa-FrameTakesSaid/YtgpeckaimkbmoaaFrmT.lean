/- The walk of hypocaustref7.Take. -/
import Derived.Test.YtgpeckaimkbmoaaFrmR
namespace Go.Proofs.Ytgpeckaimkbmoaa.FrmW
open Go Go.RowKit Go.Proofs.Ytgpeckaimkbmoaa Go.Proofs.Ytgpeckaimkbmoaa.Sp Go.Proofs.Ytgpeckaimkbmoaa.Reg Go.Proofs.Ytgpeckaimkbmoaa.CrcW Go.Proofs.Ytgpeckaimkbmoaa.CrcM
open Go.Proofs.Ytgpeckaimkbmoaa.SlW (RetBS RetBSok RetNo)

/-- A byte of a text. -/
theorem run_str_at {P : Program} {t : TypeId} (ht : P.underlying t = some .string) (w : World) (bs : List UInt8) (k : IntKind) (n : Nat) (h : n < bs.length) :
    (Instr.index t (str bs) (.int k (n : Int))).run P w = .ok (bv (at' bs n)) w := by
  have hsz : (⟨bs.toArray⟩ : ByteArray).size = bs.length := by simp [ByteArray.size]
  unfold str
  rw [run_index_string w t _ k _ ht, dif_pos ⟨by omega, by rw [hsz]; omega⟩]
  simp [at', List.getD, List.getElem?_eq_getElem h, ByteArray.getElem_eq_getElem_data]
/-- A text's part. -/
theorem run_str_mid {P : Program} {t : TypeId} (ht : P.underlying t = some .string) (w : World) (bs : List UInt8) (k k' : IntKind) (l n : Nat) (hln : l ≤ n) (h : n ≤ bs.length) :
    (Instr.sliceAt t (str bs) (some (.int k (l : Int))) (some (.int k' (n : Int))) none).run P w = .ok (str ((bs.drop l).take (n - l))) w := by
  have hsz : (⟨bs.toArray⟩ : ByteArray).size = bs.length := by simp [ByteArray.size]
  have he : (⟨bs.toArray⟩ : ByteArray).extract l n = ⟨((bs.drop l).take (n - l)).toArray⟩ := by
    apply ByteArray.ext
    simp [ByteArray.data_extract]
  rw [run_sliceAt_string w t _ _ _ _ ht]
  unfold str
  simp [Instr.slice, run_underlying ht, Instr.sliceBounds, run_sliceBound, hsz, h, he, hln]
theorem or_pow (k m y : Nat) (hy : y < 2 ^ k) (hb : 2 ^ k * m + y < 4611686018427387904) : bits .or .i64 ((2 ^ k * m : Nat) : Int) (y : Int) = ((2 ^ k * m + y : Nat) : Int) := by
  have e1 : (((2 ^ k * m : Nat) : Int) % ((2 ^ 64 : Nat) : Int)).toNat = 2 ^ k * m := by omega
  have e2 : ((y : Int) % ((2 ^ 64 : Nat) : Int)).toNat = y := by omega
  have key : (BitVec.ofInt 64 ((2 ^ k * m : Nat) : Int) ||| BitVec.ofInt 64 (y : Int)).toNat = 2 ^ k * m + y := by
    rw [BitVec.toNat_or, BitVec.toNat_ofInt, BitVec.toNat_ofInt, e1, e2, ← Nat.two_pow_add_eq_or_of_lt hy]
  show IntKind.i64.wrap ((BitVec.ofInt 64 ((2 ^ k * m : Nat) : Int) ||| BitVec.ofInt 64 (y : Int)).toNat : Nat) = _
  rw [key, IntKind.wrap_i64]
  omega
theorem or_four (a b c d : Nat) (ha : a < 256) (hb : b < 256) (hc : c < 256) (hd : d < 256) :
    bits .or .i64 (bits .or .i64 (bits .or .i64 ((a : Int) * 16777216) ((b : Int) * 65536)) ((c : Int) * 256)) (d : Int) = (((((0 * 256 + a) * 256 + b) * 256 + c) * 256 + d : Nat) : Int) := by
  have q1 := or_pow 24 a (b * 65536) (by omega) (by omega)
  have q2 := or_pow 16 (a * 256 + b) (c * 256) (by omega) (by omega)
  have q3 := or_pow 8 ((a * 256 + b) * 256 + c) d (by omega) (by omega)
  rw [show ((a : Int) * 16777216) = ((2 ^ 24 * a : Nat) : Int) by omega, show ((b : Int) * 65536) = ((b * 65536 : Nat) : Int) by omega, q1,
    show (2 ^ 24 * a + b * 65536 : Nat) = 2 ^ 16 * (a * 256 + b) by omega, show ((c : Int) * 256) = ((c * 256 : Nat) : Int) by omega, q2,
    show (2 ^ 16 * (a * 256 + b) + c * 256 : Nat) = 2 ^ 8 * ((a * 256 + b) * 256 + c) by omega, q3]
  omega
theorem arr52 (tm : Array Value) (h : tm.size = 52) : ∃ u0 u1 u2 u3 u4 u5 u6 u7 u8 u9 u10 u11 u12 u13 u14 u15 u16 u17 u18 u19 u20 u21 u22 u23 u24 u25 u26 u27 u28 u29 u30 u31 u32 u33 u34 u35 u36 u37 u38 u39 u40 u41 u42 u43 u44 u45 u46 u47 u48 u49 u50 u51, tm = #[u0, u1, u2, u3, u4, u5, u6, u7, u8, u9, u10, u11, u12, u13, u14, u15, u16, u17, u18, u19, u20, u21, u22, u23, u24, u25, u26, u27, u28, u29, u30, u31, u32, u33, u34, u35, u36, u37, u38, u39, u40, u41, u42, u43, u44, u45, u46, u47, u48, u49, u50, u51] := by
  obtain ⟨l0⟩ := tm
  have h0 : l0.length = 52 := h
  clear h
  obtain ⟨u0, l1, rfl, h1⟩ := take1 h0
  clear h0
  obtain ⟨u1, l2, rfl, h2⟩ := take1 h1
  clear h1
  obtain ⟨u2, l3, rfl, h3⟩ := take1 h2
  clear h2
  obtain ⟨u3, l4, rfl, h4⟩ := take1 h3
  clear h3
  obtain ⟨u4, l5, rfl, h5⟩ := take1 h4
  clear h4
  obtain ⟨u5, l6, rfl, h6⟩ := take1 h5
  clear h5
  obtain ⟨u6, l7, rfl, h7⟩ := take1 h6
  clear h6
  obtain ⟨u7, l8, rfl, h8⟩ := take1 h7
  clear h7
  obtain ⟨u8, l9, rfl, h9⟩ := take1 h8
  clear h8
  obtain ⟨u9, l10, rfl, h10⟩ := take1 h9
  clear h9
  obtain ⟨u10, l11, rfl, h11⟩ := take1 h10
  clear h10
  obtain ⟨u11, l12, rfl, h12⟩ := take1 h11
  clear h11
  obtain ⟨u12, l13, rfl, h13⟩ := take1 h12
  clear h12
  obtain ⟨u13, l14, rfl, h14⟩ := take1 h13
  clear h13
  obtain ⟨u14, l15, rfl, h15⟩ := take1 h14
  clear h14
  obtain ⟨u15, l16, rfl, h16⟩ := take1 h15
  clear h15
  obtain ⟨u16, l17, rfl, h17⟩ := take1 h16
  clear h16
  obtain ⟨u17, l18, rfl, h18⟩ := take1 h17
  clear h17
  obtain ⟨u18, l19, rfl, h19⟩ := take1 h18
  clear h18
  obtain ⟨u19, l20, rfl, h20⟩ := take1 h19
  clear h19
  obtain ⟨u20, l21, rfl, h21⟩ := take1 h20
  clear h20
  obtain ⟨u21, l22, rfl, h22⟩ := take1 h21
  clear h21
  obtain ⟨u22, l23, rfl, h23⟩ := take1 h22
  clear h22
  obtain ⟨u23, l24, rfl, h24⟩ := take1 h23
  clear h23
  obtain ⟨u24, l25, rfl, h25⟩ := take1 h24
  clear h24
  obtain ⟨u25, l26, rfl, h26⟩ := take1 h25
  clear h25
  obtain ⟨u26, l27, rfl, h27⟩ := take1 h26
  clear h26
  obtain ⟨u27, l28, rfl, h28⟩ := take1 h27
  clear h27
  obtain ⟨u28, l29, rfl, h29⟩ := take1 h28
  clear h28
  obtain ⟨u29, l30, rfl, h30⟩ := take1 h29
  clear h29
  obtain ⟨u30, l31, rfl, h31⟩ := take1 h30
  clear h30
  obtain ⟨u31, l32, rfl, h32⟩ := take1 h31
  clear h31
  obtain ⟨u32, l33, rfl, h33⟩ := take1 h32
  clear h32
  obtain ⟨u33, l34, rfl, h34⟩ := take1 h33
  clear h33
  obtain ⟨u34, l35, rfl, h35⟩ := take1 h34
  clear h34
  obtain ⟨u35, l36, rfl, h36⟩ := take1 h35
  clear h35
  obtain ⟨u36, l37, rfl, h37⟩ := take1 h36
  clear h36
  obtain ⟨u37, l38, rfl, h38⟩ := take1 h37
  clear h37
  obtain ⟨u38, l39, rfl, h39⟩ := take1 h38
  clear h38
  obtain ⟨u39, l40, rfl, h40⟩ := take1 h39
  clear h39
  obtain ⟨u40, l41, rfl, h41⟩ := take1 h40
  clear h40
  obtain ⟨u41, l42, rfl, h42⟩ := take1 h41
  clear h41
  obtain ⟨u42, l43, rfl, h43⟩ := take1 h42
  clear h42
  obtain ⟨u43, l44, rfl, h44⟩ := take1 h43
  clear h43
  obtain ⟨u44, l45, rfl, h45⟩ := take1 h44
  clear h44
  obtain ⟨u45, l46, rfl, h46⟩ := take1 h45
  clear h45
  obtain ⟨u46, l47, rfl, h47⟩ := take1 h46
  clear h46
  obtain ⟨u47, l48, rfl, h48⟩ := take1 h47
  clear h47
  obtain ⟨u48, l49, rfl, h49⟩ := take1 h48
  clear h48
  obtain ⟨u49, l50, rfl, h50⟩ := take1 h49
  clear h49
  obtain ⟨u50, l51, rfl, h51⟩ := take1 h50
  clear h50
  obtain ⟨u51, l52, rfl, h52⟩ := take1 h51
  clear h51
  obtain rfl : l52 = [] := List.eq_nil_of_length_eq_zero h52
  exact ⟨_, _, _, _, _, _, _, _, _, _, _, _, _, _, _, _, _, _, _, _, _, _, _, _, _, _, _, _, _, _, _, _, _, _, _, _, _, _, _, _, _, _, _, _, _, _, _, _, _, _, _, _, rfl⟩
set_option maxHeartbeats 400000 in
theorem rtake_short (b : List UInt8) (w : World) (h : b.length ≠ 96) (hm : b.length ≤ 1000) : Calls Try.prog 29 #[str b] w fun e w' => e = .returned (.tuple #[.int .i64 0, .string ⟨#[]⟩, .bool false]) ∧ Add w w' := by
  have hsz : (⟨b.toArray⟩ : ByteArray).size = b.length := by simp [ByteArray.size]
  have e : ((b.length : Int) != 96) = true := by rw [bne_iff_ne]; omega
  clear h
  go_enter Try.func29, Try.ntmps29
  go_wp2_with fail
  go_ret3
  exact ⟨rfl, Add.refl w⟩
set_option maxHeartbeats 1600000 in
set_option maxRecDepth 100000 in
theorem rtake_walk (b : List UInt8) (w : World) (hl : b.length = 96) :
    Calls Try.prog 29 #[str b] w fun e w' => e = .returned (if good b then .tuple #[.int .i64 (dec b 4 : Int), str (dat b), .bool true] else .tuple #[.int .i64 0, .string ⟨#[]⟩, .bool false]) ∧ Add w w' := by
  have hsz : (⟨b.toArray⟩ : ByteArray).size = 96 := by simp [ByteArray.size, hl]
  have ix : ∀ (n : Nat), n < 96 → ∀ w, (Instr.index 9 (str b) (.int .i64 (n : Int))).run Try.prog w = .ok (bv (at' b n)) w := fun n hn w => run_str_at Try.underlying9 w b .i64 n (by omega)
  have ix1 : ∀ w, (Instr.index 9 (str b) (.int .i64 1)).run Try.prog w = .ok (bv (at' b 1)) w := ix 1 (by omega)
  have ix4 : ∀ w, (Instr.index 9 (str b) (.int .i64 4)).run Try.prog w = .ok (bv (at' b 4)) w := ix 4 (by omega)
  have ix5 : ∀ w, (Instr.index 9 (str b) (.int .i64 5)).run Try.prog w = .ok (bv (at' b 5)) w := ix 5 (by omega)
  have ix6 : ∀ w, (Instr.index 9 (str b) (.int .i64 6)).run Try.prog w = .ok (bv (at' b 6)) w := ix 6 (by omega)
  have ix7 : ∀ w, (Instr.index 9 (str b) (.int .i64 7)).run Try.prog w = .ok (bv (at' b 7)) w := ix 7 (by omega)
  have y4 : ((at' b 4).toNat : Int) < 256 := by have := UInt8.toNat_lt (at' b 4); omega
  have y5 : ((at' b 5).toNat : Int) < 256 := by have := UInt8.toNat_lt (at' b 5); omega
  have y6 : ((at' b 6).toNat : Int) < 256 := by have := UInt8.toNat_lt (at' b 6); omega
  have y7 : ((at' b 7).toNat : Int) < 256 := by have := UInt8.toNat_lt (at' b 7); omega
  have HL := Lib.hid hl
  clear ix
  by_cases h64 : 64 < (at' b 1).toNat
  · have hd : (64 : Int) < ((at' b 1).toNat : Int) := by omega
    rw [if_neg (fun g => by have := g.2.1; omega)]
    go_enter Try.func29, Try.ntmps29
    go_wp2_with fail
    go_ret3
    exact ⟨rfl, Add.refl w⟩
  · have hd : ((at' b 1).toNat : Int) ≤ 64 := by omega
    have hor : Value.int .i64 (bits .or .i64 (bits .or .i64 (bits .or .i64 (((at' b 4).toNat : Int) * 16777216) (((at' b 5).toNat : Int) * 65536)) (((at' b 6).toNat : Int) * 256)) ((at' b 7).toNat : Int)) = .int .i64 (dec b 4 : Int) := congrArg (Value.int .i64) (or_four _ _ _ _ (by omega) (by omega) (by omega) (by omega))
    go_enter Try.func29, Try.ntmps29
    go_wp2_with fail
    refine wp_region_rs mixed (by kernel_rfl) ?_
    refine RSl.exact (str b) rfl rfl rfl rfl (fun _ _ => rfl) ?_
    refine RSl.exact (bv (at' b 4)) rfl rfl rfl rfl (fun w' ha => by simp [rho, upd, Spec.val, execOp, ix4, Result.andThen]) ?_
    refine RSl.exact (.int .i64 ↑(at' b 4).toNat) rfl rfl rfl rfl (fun w' ha => by simp [rho, upd, Spec.val, execOp, go_sem]; rw [IntKind.wrap_i64]; omega) ?_
    refine RSl.exact (.int .i64 (↑(at' b 4).toNat * 16777216)) rfl rfl rfl rfl (fun w' ha => by simp [rho, upd, Spec.val, execOp, go_sem]; rw [IntKind.wrap_i64]; omega) ?_
    refine RSl.exact (str b) rfl rfl rfl rfl (fun _ _ => rfl) ?_
    refine RSl.exact (bv (at' b 5)) rfl rfl rfl rfl (fun w' ha => by simp [rho, upd, Spec.val, execOp, ix5, Result.andThen]) ?_
    refine RSl.exact (.int .i64 ↑(at' b 5).toNat) rfl rfl rfl rfl (fun w' ha => by simp [rho, upd, Spec.val, execOp, go_sem]; rw [IntKind.wrap_i64]; omega) ?_
    refine RSl.exact (.int .i64 (↑(at' b 5).toNat * 65536)) rfl rfl rfl rfl (fun w' ha => by simp [rho, upd, Spec.val, execOp, go_sem]; rw [IntKind.wrap_i64]; omega) ?_
    refine RSl.exact (.int .i64 (bits .or .i64 (((at' b 4).toNat : Int) * 16777216) (((at' b 5).toNat : Int) * 65536))) rfl rfl rfl rfl (fun w' ha => by simp [rho, upd, Spec.val, execOp, go_sem]) ?_
    refine RSl.exact (str b) rfl rfl rfl rfl (fun _ _ => rfl) ?_
    refine RSl.exact (bv (at' b 6)) rfl rfl rfl rfl (fun w' ha => by simp [rho, upd, Spec.val, execOp, ix6, Result.andThen]) ?_
    refine RSl.exact (.int .i64 ↑(at' b 6).toNat) rfl rfl rfl rfl (fun w' ha => by simp [rho, upd, Spec.val, execOp, go_sem]; rw [IntKind.wrap_i64]; omega) ?_
    refine RSl.exact (.int .i64 (↑(at' b 6).toNat * 256)) rfl rfl rfl rfl (fun w' ha => by simp [rho, upd, Spec.val, execOp, go_sem]; rw [IntKind.wrap_i64]; omega) ?_
    refine RSl.exact (.int .i64 (bits .or .i64 (bits .or .i64 (((at' b 4).toNat : Int) * 16777216) (((at' b 5).toNat : Int) * 65536)) (((at' b 6).toNat : Int) * 256))) rfl rfl rfl rfl (fun w' ha => by simp [rho, upd, Spec.val, execOp, go_sem]) ?_
    refine RSl.exact (str b) rfl rfl rfl rfl (fun _ _ => rfl) ?_
    refine RSl.exact (bv (at' b 7)) rfl rfl rfl rfl (fun w' ha => by simp [rho, upd, Spec.val, execOp, ix7, Result.andThen]) ?_
    refine RSl.exact (.int .i64 ↑(at' b 7).toNat) rfl rfl rfl rfl (fun w' ha => by simp [rho, upd, Spec.val, execOp, go_sem]; rw [IntKind.wrap_i64]; omega) ?_
    refine RSl.exact (.int .i64 ↑(dec b 4)) rfl rfl rfl rfl (fun w' ha => by rw [← hor]; simp [rho, upd, Spec.val, execOp, go_sem]) ?_
    refine RSl.exact (.int .i64 ↑(dec b 4)) rfl rfl rfl rfl (fun _ _ => rfl) ?_
    refine RSl.nil fun a' w1 ha hdf hs hh => ?_
    have HD := Lib.hid hd
    have HA := Lib.hid ha
    clear hd ha hor y4 y5 y6 y7 ix4 ix5 ix6 ix7
    have hd := hdf
    clear hdf
    obtain ⟨tm, df⟩ := a'
    replace hd : df = [] := hd
    subst hd
    obtain ⟨u0, u1, u2, u3, u4, u5, u6, u7, u8, u9, u10, u11, u12, u13, u14, u15, u16, u17, u18, u19, u20, u21, u22, u23, u24, u25, u26, u27, u28, u29, u30, u31, u32, u33, u34, u35, u36, u37, u38, u39, u40, u41, u42, u43, u44, u45, u46, u47, u48, u49, u50, u51, rfl⟩ := arr52 tm hs
    obtain rfl : u0 = str b := hh 0 (by simp)
    obtain rfl : u5 = .int .i64 ↑(dec b 4) := hh 5 (by simp)
    clear hh hs
    have hdl := dat_len b HL.out (by omega)
    have hdec : dec b 4 < 4294967296 := by have := dec_lt b 4; have q2 : (256 : Nat) ^ 4 = 4294967296 := by decide
                                           omega
    have hs12 : ∀ w, (Instr.sliceAt 9 (str b) (some (.int .i64 12)) (some (.int .i64 (12 + ((at' b 1).toNat : Int)))) none).run Try.prog w = .ok (str (dat b)) w := fun w => by
      have q := run_str_mid (P := Try.prog) Try.underlying9 w b .i64 .i64 12 (12 + (at' b 1).toNat) (by omega) (by omega)
      rw [Nat.add_sub_cancel_left] at q
      exact q
    have hgood : good b ↔ frm (dec b 4) (dat b) = b := ⟨fun g => g.2.2, fun g => ⟨HL.out, by omega, g⟩⟩
    have HG := Lib.hid hgood
    have hdl64 : (dat b).length ≤ 64 := by omega
    have hd1 := HD.out
    have hd0 : (0 : Int) ≤ ((at' b 1).toNat : Int) := by omega
    have RF := Lib.hid (fun w => rframe_yes (dec b 4) hdec (dat b) hdl64 w)
    clear hgood hdl HD hdec hdl64
    generalize frm (dec b 4) (dat b) = F at HG RF
    generalize hDD : dat b = D at hs12 RF ⊢
    have HDD := Lib.hid hDD
    clear hDD
    go_wp2_with fail
    refine (RF.out w1).mono ?_
    rintro e w2 ⟨rfl, h2⟩
    have H2 := Lib.hid (HA.out.trans h2)
    clear h2
    by_cases hg : F = b
    · subst hg
      have HGG := Lib.hid (HG.out.2 rfl)
      go_wp2_with fail
      go_ret3
      refine ⟨?_, H2.out⟩
      first | rw [if_pos HGG.out] | skip
      rw [HDD.out]
      rfl
    · have hq : (F == b) = false := beq_eq_false_iff_ne.2 hg
      have HGG := Lib.hid (fun k => hg (HG.out.1 k))
      clear hg
      go_wp2_with fail
      go_ret3
      refine ⟨?_, H2.out⟩
      first | rw [if_neg HGG.out] | skip
      rfl
end Go.Proofs.Ytgpeckaimkbmoaa.FrmW
