/- BayReads, walked. -/
import Derived.Test.YtmilfilmhkpjoaaBayV
import Derived.Test.YtmilfilmhkpjoaaFrmP
import Derived.Test.YtmilfilmhkpjoaaDskU
namespace Go.Proofs.Ytmilfilmhkpjoaa.BayW
open Go Go.RowKit Go.Proofs.Ytmilfilmhkpjoaa Go.Proofs.Ytmilfilmhkpjoaa.Sp Go.Proofs.Ytmilfilmhkpjoaa.Reg Go.Proofs.Ytmilfilmhkpjoaa.SlW Go.Proofs.Ytmilfilmhkpjoaa.Fus Go.Proofs.Ytmilfilmhkpjoaa.Rd Go.Proofs.Ytmilfilmhkpjoaa.DskW Go.Proofs.Ytmilfilmhkpjoaa.FrmW
theorem and_m24 (n : Int) : bits .and .i64 n 16777215 = n % 16777216 := by
  have h1 : (BitVec.ofInt 64 16777215).toNat = 2 ^ 24 - 1 := by decide
  have key : (BitVec.ofInt 64 n &&& BitVec.ofInt 64 16777215).toNat = (n % ((2 ^ 64 : Nat) : Int)).toNat % 2 ^ 24 := by
    rw [BitVec.toNat_and, BitVec.toNat_ofInt, h1, Nat.and_two_pow_sub_one_eq_mod]
  show IntKind.i64.wrap ((BitVec.ofInt 64 n &&& BitVec.ofInt 64 16777215).toNat : Nat) = n % 16777216
  rw [key, IntKind.wrap_i64]
  omega
theorem mod24 (z : Int) : ∃ k : Nat, bits .and .i64 z 16777215 = (k : Int) ∧ k < 16777216 := ⟨(z % 16777216).toNat, by rw [and_m24]; omega, by omega⟩
theorem mod768 (z : Int) : ∃ k : Nat, (bits .and .i64 z 65535).tmod 768 = (k : Int) ∧ k < 768 := ⟨(z % 65536 % 768).toNat, by rw [and_m16, Int.tmod_eq_emod_of_nonneg (by omega)]; omega, by omega⟩
/-- The disk behind the two writes; a slot's bytes. -/
def D2 (f g : List UInt8) : Dk := ⟨List.replicate 4 blk0, [(0, f), (1, g)], false⟩
theorem blk_bad : ¬ good blk0 := zeros_bad
theorem d1_write (f g : List UInt8) (hg : g.length = 96) : dWrite none ⟨List.replicate 4 blk0, [(0, f)], false⟩ ((1 : Nat) : Int) g = (0, none, D2 f g) := by
  unfold dWrite
  rw [if_neg (by rw [hg]; simp), if_neg (by simp), if_neg (by simp [fdead])]
  rfl
theorem d0_write (f : List UInt8) (hf : f.length = 96) : dWrite none ⟨List.replicate 4 blk0, [], false⟩ ((0 : Nat) : Int) f = (0, none, ⟨List.replicate 4 blk0, [(0, f)], false⟩) := by
  unfold dWrite
  rw [if_neg (by rw [hf]; simp), if_neg (by simp), if_neg (by simp [fdead])]
  rfl
theorem d2_err (f g : List UInt8) (k : Nat) (hk : k < 4) : dErr (D2 f g) (k : Int) = 0 := by unfold dErr D2; rw [if_pos (by simp; omega)]; rfl
theorem d2_0 (f g : List UInt8) : dRead (D2 f g) ((0 : Nat) : Int) = f := by unfold dRead D2 nowB; simp
theorem d2_1 (f g : List UInt8) : dRead (D2 f g) ((1 : Nat) : Int) = g := by unfold dRead D2 nowB; simp
theorem d2_2 (f g : List UInt8) : dRead (D2 f g) ((2 : Nat) : Int) = blk0 := by unfold dRead D2 nowB; simp
theorem d2_3 (f g : List UInt8) : dRead (D2 f g) ((3 : Nat) : Int) = blk0 := by unfold dRead D2 nowB; simp
theorem d2_rot (f g : List UInt8) (j : Nat) (hj : j < 96) (x : UInt8) : dRot (D2 f g) 0 (j : Int) x = (true, D2 (f.set j (f.getD j 0 ^^^ x)) g) := by
  unfold dRot
  rw [if_pos ⟨by unfold D2; simp, by omega, by omega, rfl⟩]
  have e : nowB (D2 f g).lasts (D2 f g).pend (0 : Int).toNat = f := by unfold D2 nowB; simp
  rw [e]
  unfold setNow D2
  simp [lastIdx]
theorem d2_scan {f g : List UInt8} (hf : ¬ good f) (hg : good g) : (chs (D2 f g) (D2 f g).lasts.length).length = 1 := by
  show (chs (D2 f g) 4).length = 1
  rw [chs_no (k := 3) (by rw [d2_3]; exact blk_bad), chs_no (k := 2) (by rw [d2_2]; exact blk_bad), chs_yes (k := 1) (by rw [d2_1]; exact hg), chs_no (k := 0) (by rw [d2_0]; exact hf)]
  rfl
set_option maxRecDepth 100000 in
set_option maxHeartbeats 16000000 in
theorem reads_in (id0 ot0 bit0 : Int) (id ot t : Nat) (hid : bits .and .i64 id0 16777215 = (id : Int)) (bid : id < 16777216) (hot : bits .and .i64 ot0 16777215 = (ot : Int)) (bot : ot < 16777216) (ht : (bits .and .i64 bit0 65535).tmod 768 = (t : Int)) (bt : t < 768)
    (a : Option Addr) (ca : Nat) (la : List UInt8) (a2 : Option Addr) (cc : Nat) (lc : List UInt8) (w0 : World) (HA : Hid (BS w0 (.slice a la.length ca) la)) (HC : Hid (BS w0 (.slice a2 lc.length cc) lc)) (la1 : (la.length : Int) ≤ 64) (lc1 : (lc.length : Int) ≤ 64) :
    Calls Try.prog 5 #[.int .i64 id0, .slice a la.length ca, .int .i64 ot0, .slice a2 lc.length cc, .int .i64 bit0] w0 fun e w' => e = .returned (.bool true) ∧ Below w0.heap.size w0 w' := by
  have bid2 : id < 4294967296 := by omega
  have bot2 : ot < 4294967296 := by omega
  have hla : la.length ≤ 64 := by omega
  have hlc : lc.length ≤ 64 := by omega
  go_enter Try.func5, Try.ntmps5
  go_wp2_with fail
  refine (DskW.new_calls 4 none w0 (St.init w0)).mono ?_
  rintro e w1 ⟨pd, rfl, s⟩
  have hD : Dk.new 4 = ⟨List.replicate 4 blk0, [], false⟩ := rfl
  rw [hD] at s
  have S := Lib.hid s
  clear s hD
  go_wp2_with fail
  refine (BayW.new_calls ⟨List.replicate 4 blk0, [], false⟩ pd _ (by simp) _ S.out).mono ?_
  rintro e w2 ⟨b, g, c, rfl, s⟩
  rw [show List.replicate (List.replicate 4 blk0).length false = [false, false, false, false] from rfl] at s
  clear S
  have S := Lib.hid s
  clear s
  obtain ⟨bk0, _, _, _, _, hpd, -⟩ := dk_open (S.out.right)
  subst hpd
  go_wp2_with fail
  have q := take_calls b g c (.pointer (some ⟨bk0, 0, none⟩)) [false, false, false, false] (by simp) _ S.out
  unfold TkP at q
  rw [show tk [false, false, false, false] = some 0 from rfl] at q
  refine q.mono ?_
  rintro e w3 ⟨rfl, s⟩
  rw [show List.set [false, false, false, false] 0 true = [true, false, false, false] from rfl] at s
  clear S q
  have S := Lib.hid s
  clear s
  go_wp2_with fail
  have q := take_calls b g c (.pointer (some ⟨bk0, 0, none⟩)) [true, false, false, false] (by simp) _ S.out
  unfold TkP at q
  rw [show tk [true, false, false, false] = some 1 from rfl] at q
  refine q.mono ?_
  rintro e w4 ⟨rfl, s⟩
  rw [show List.set [true, false, false, false] 1 true = [true, true, false, false] from rfl] at s
  clear S q
  have S := Lib.hid s
  clear s
  go_wp2_with fail
  have q := bwrite_calls b g c (.pointer (some ⟨bk0, 0, none⟩)) [true, true, false, false] ⟨List.replicate 4 blk0, [], false⟩ 0 id (by simp) rfl bid2 a ca la hla (by simp) _ (reads_arg _ HA.out) S.out
  rw [d0_write _ (frm_len id la hla)] at q
  refine q.mono ?_
  rintro e w5 ⟨rfl, s⟩
  clear S q
  have S := Lib.hid s
  clear s
  go_wp2_with fail
  have q := bwrite_calls b g c (.pointer (some ⟨bk0, 0, none⟩)) [true, true, false, false] ⟨List.replicate 4 blk0, [(0, frm id la)], false⟩ 1 ot (by simp) rfl bot2 a2 cc lc hlc (by simp) _ (reads_arg _ HC.out) S.out
  rw [d1_write _ _ (frm_len ot lc hlc)] at q
  refine q.mono ?_
  rintro e w6 ⟨rfl, s⟩
  clear S q
  have S := Lib.hid s
  clear s
  go_wp2_with fail
  refine (bread_hit b g c _ _ _ _ 0 id bid2 la hla (d2_err _ _ 0 (by omega)) (d2_0 _ _) _ S.out).mono ?_
  rintro e w7 ⟨ax, cx, rfl, s⟩
  clear S
  have S := Lib.hid (s.eq (Q := bay b (.pointer (some ⟨bk0, 0, none⟩)) g c [true, true, false, false] * (dk (.pointer (some ⟨bk0, 0, none⟩)) (.pointer none) (D2 (frm id la) (frm ot lc)) * (row 5 1 (.slice ax la.length cx) la.length (bvs la) * emp))) (by ac_rfl))
  clear s
  go_wp2_with fail
  refine (bread_hit b g c _ _ _ _ 1 ot bot2 lc hlc (d2_err _ _ 1 (by omega)) (d2_1 _ _) _ S.out).mono ?_
  rintro e w8 ⟨ay, cy, rfl, s⟩
  clear S
  have S := Lib.hid (s.eq (Q := bay b (.pointer (some ⟨bk0, 0, none⟩)) g c [true, true, false, false] * (dk (.pointer (some ⟨bk0, 0, none⟩)) (.pointer none) (D2 (frm id la) (frm ot lc)) * (row 5 1 (.slice ax la.length cx) la.length (bvs la) * (row 5 1 (.slice ay lc.length cy) lc.length (bvs lc) * emp)))) (by ac_rfl))
  clear s
  go_wp2_with fail
  refine (bread_other b g c _ _ _ _ 0 id ((id : Int) + 1) (by omega) bid2 la hla (d2_err _ _ 0 (by omega)) (d2_0 _ _) _ S.out).mono ?_
  rintro e wq ⟨rfl, sq⟩
  clear S
  have S := Lib.hid sq
  clear sq
  go_wp2_with fail
  refine (bread_none b g c _ _ _ _ 2 id blk0 (by simp [blk0]) blk_bad (d2_err _ _ 2 (by omega)) (d2_2 _ _) _ S.out).mono ?_
  rintro e wq ⟨rfl, sq⟩
  clear S
  have S := Lib.hid sq
  clear sq
  go_wp2_with fail
  refine (bwrite_no b g c (.pointer (some ⟨bk0, 0, none⟩)) [true, true, false, false] 2 id rfl bid2 a ca la hla _ (reads_arg _ HA.out) S.out).mono ?_
  rintro e w9 ⟨rfl, s⟩
  clear S
  have S := Lib.hid s
  have hc1 := run_str (P := Try.prog) Try.underlying37 Try.underlying5 Try.underlying9 (HA.out.st rfl s)
  have hc2 := run_str (P := Try.prog) Try.underlying37 Try.underlying5 Try.underlying9 (HC.out.st rfl s)
  have hc3 := run_str (P := Try.prog) Try.underlying37 Try.underlying5 Try.underlying9 (s.eq (Q := row 5 1 (.slice ax la.length cx) la.length (bvs la) * (bay b (.pointer (some ⟨bk0, 0, none⟩)) g c [true, true, false, false] * (dk (.pointer (some ⟨bk0, 0, none⟩)) (.pointer none) (D2 (frm id la) (frm ot lc)) * (row 5 1 (.slice ay lc.length cy) lc.length (bvs lc) * emp)))) (by ac_rfl)).bs
  have hc4 := run_str (P := Try.prog) Try.underlying37 Try.underlying5 Try.underlying9 (s.eq (Q := row 5 1 (.slice ay lc.length cy) lc.length (bvs lc) * (bay b (.pointer (some ⟨bk0, 0, none⟩)) g c [true, true, false, false] * (dk (.pointer (some ⟨bk0, 0, none⟩)) (.pointer none) (D2 (frm id la) (frm ot lc)) * (row 5 1 (.slice ax la.length cx) la.length (bvs la) * emp)))) (by ac_rfl)).bs
  clear s
  go_wp2_with fail
  clear hc1 hc2 hc3 hc4
  have hF : (frm id la).length = 96 := frm_len id la hla
  have hgd := good_frm id bid2 la hla
  have hgc := good_frm ot bot2 lc hlc
  have hbad := bit_bad hgd (t / 8) (t % 8) (by omega) (by omega)
  rw [show (frm id la)[t / 8]'(by omega) = (frm id la).getD (t / 8) 0 from by simp [List.getD, show t / 8 < (frm id la).length by omega]] at hbad
  have q := rot_calls (D2 (frm id la) (frm ot lc)) (.pointer (some ⟨bk0, 0, none⟩)) (.pointer none) 0 ((t / 8 : Nat) : Int) (UInt8.ofNat (2 ^ (t % 8))) w9 (S.out.eq (Q := dk (.pointer (some ⟨bk0, 0, none⟩)) (.pointer none) (D2 (frm id la) (frm ot lc)) * (bay b (.pointer (some ⟨bk0, 0, none⟩)) g c [true, true, false, false] * (row 5 1 (.slice ax la.length cx) la.length (bvs la) * (row 5 1 (.slice ay lc.length cy) lc.length (bvs lc) * emp)))) (by ac_rfl))
  rw [d2_rot _ _ _ (by omega)] at q
  have hlen2 : ((frm id la).set (t / 8) ((frm id la).getD (t / 8) 0 ^^^ UInt8.ofNat (2 ^ (t % 8)))).length = 96 := by rw [List.length_set]; exact hF
  generalize (frm id la).set (t / 8) ((frm id la).getD (t / 8) 0 ^^^ UInt8.ofNat (2 ^ (t % 8))) = F2 at q hbad hlen2
  rw [show bv (UInt8.ofNat (2 ^ (t % 8))) = Value.int .u8 (2 ^ (t % 8) % 256) from by show Value.int .u8 ((UInt8.ofNat (2 ^ (t % 8))).toNat : Int) = _; rw [UInt8.toNat_ofNat']; push_cast; rfl, show ((t / 8 : Nat) : Int) = (t : Int) / 8 from by push_cast; rfl] at q
  have Q := Lib.hid q
  have HB := Lib.hid hbad
  have HG := Lib.hid hgc
  have HL := Lib.hid hlen2
  clear S q hbad hgd hgc hF hlen2
  refine Q.out.mono ?_
  rintro e w10 ⟨rfl, s⟩
  have S := Lib.hid (St.eq (Q := bay b (.pointer (some ⟨bk0, 0, none⟩)) g c [true, true, false, false] * (dk (.pointer (some ⟨bk0, 0, none⟩)) (.pointer none) (D2 F2 (frm ot lc)) * (row 5 1 (.slice ax la.length cx) la.length (bvs la) * (row 5 1 (.slice ay lc.length cy) lc.length (bvs lc) * emp)))) (sep_left_comm _ _ _) s)
  clear s Q
  go_wp2_with fail
  refine (bread_none b g c _ _ _ _ 0 id F2 HL.out HB.out (d2_err _ _ 0 (by omega)) (d2_0 _ _) _ S.out).mono ?_
  rintro e wq ⟨rfl, sq⟩
  clear S
  have S := Lib.hid sq
  clear sq
  go_wp2_with fail
  refine (bread_hit b g c _ _ _ _ 1 ot bot2 lc hlc (d2_err _ _ 1 (by omega)) (d2_1 _ _) _ S.out).mono ?_
  rintro e w11 ⟨az, cz, rfl, s⟩
  clear S
  have hc1 := run_str (P := Try.prog) Try.underlying37 Try.underlying5 Try.underlying9 s.bs
  have hc2 := run_str (P := Try.prog) Try.underlying37 Try.underlying5 Try.underlying9 (HC.out.st rfl s)
  have S := Lib.hid s.right
  clear s
  go_wp2_with fail
  clear hc1 hc2
  refine (scan_calls b g c _ _ _ (D2 F2 (frm ot lc)) rfl _ S.out).mono ?_
  rintro e w12 ⟨v, rfl, s⟩
  rw [d2_scan HB.out HG.out] at s
  obtain ⟨av, cv, rfl, -⟩ := s.rowSlice
  clear S
  have S := Lib.hid s.right
  clear s
  go_wp2_with fail
  refine (awake_calls _ S.out).mono ?_
  rintro e wq ⟨rfl, sq⟩
  clear S
  have S := Lib.hid sq
  clear sq
  go_wp2_with fail
  go_ret
  exact ⟨rfl, S.out.below⟩
set_option maxRecDepth 100000 in
set_option maxHeartbeats 8000000 in
theorem reads_walk (id0 : Int) (a : Option Addr) (ca : Nat) (la : List UInt8) (ot0 : Int) (a2 : Option Addr) (cc : Nat) (lc : List UInt8) (bit0 : Int) (w0 : World) (_w1 : (Lit.int .i64 id0).wf = true)
    (ha : BS w0 (.slice a la.length ca) la) (_ya : la.length * 1 ≤ 140737488351232) (_w2 : (Lit.int .i64 ot0).wf = true) (hc : BS w0 (.slice a2 lc.length cc) lc) (_yc : lc.length * 1 ≤ 140737488351232) (_w3 : (Lit.int .i64 bit0).wf = true) :
    Calls Try.prog 5 #[.int .i64 id0, .slice a la.length ca, .int .i64 ot0, .slice a2 lc.length cc, .int .i64 bit0] w0 fun e w' => e = .returned (.bool true) ∧ Below w0.heap.size w0 w' := by
  obtain ⟨id, hid, bid⟩ := mod24 id0
  obtain ⟨ot, hot, bot⟩ := mod24 ot0
  obtain ⟨t, ht, bt⟩ := mod768 bit0
  have HA := Lib.hid ha
  have HC := Lib.hid hc
  clear ha hc
  have S := Lib.hid (St.init w0)
  by_cases h1 : 64 < la.length
  · have k1 : (64 : Int) < (la.length : Int) := by omega
    clear h1 hid hot ht
    go_enter Try.func5, Try.ntmps5
    go_wp2_with fail
    refine (awake_calls w0 S.out).mono ?_
    rintro e wq ⟨rfl, sq⟩
    have S2 := Lib.hid sq
    clear sq S
    go_wp2_with fail
    go_ret
    exact ⟨rfl, S2.out.below⟩
  · have k1 : (la.length : Int) ≤ 64 := by omega
    clear h1
    by_cases h2 : 64 < lc.length
    · have k2 : (64 : Int) < (lc.length : Int) := by omega
      clear h2 hid hot ht
      go_enter Try.func5, Try.ntmps5
      go_wp2_with fail
      refine (awake_calls w0 S.out).mono ?_
      rintro e wq ⟨rfl, sq⟩
      have S2 := Lib.hid sq
      clear sq S
      go_wp2_with fail
      go_ret
      exact ⟨rfl, S2.out.below⟩
    · exact reads_in id0 ot0 bit0 id ot t hid bid hot bot ht bt a ca la a2 cc lc w0 HA HC k1 (by omega)
end Go.Proofs.Ytmilfilmhkpjoaa.BayW
