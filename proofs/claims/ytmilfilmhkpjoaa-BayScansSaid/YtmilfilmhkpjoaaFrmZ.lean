/- frame.Take and frame.Holds, walked over owned memory: what is handed back is owned. -/
import Derived.Test.YtmilfilmhkpjoaaFrmW5
import Derived.Test.YtmilfilmhkpjoaaFus
import Derived.Test.YtmilfilmhkpjoaaDskN
import Derived.Test.YtmilfilmhkpjoaaRws
import Derived.Test.YtmilfilmhkpjoaaRd
namespace Go.Proofs.Ytmilfilmhkpjoaa.FrmW
open Go Go.RowKit Go.Proofs.Ytmilfilmhkpjoaa Go.Proofs.Ytmilfilmhkpjoaa.Sp Go.Proofs.Ytmilfilmhkpjoaa.Reg Go.Proofs.Ytmilfilmhkpjoaa.CrcW Go.Proofs.Ytmilfilmhkpjoaa.CrcM
open Go.Proofs.Ytmilfilmhkpjoaa.Fus (RetS)
open Go.Proofs.Ytmilfilmhkpjoaa.Rd (Reads)
/-- Bytes in a row of their own. -/
def RetN (B : Nat) (w0 : World) (R : HP) (bs : List UInt8) (e : Ending) (w' : World) : Prop := ∃ a c, e = .returned (.slice a bs.length c) ∧ St B w0 w' (row 5 1 (.slice a bs.length c) bs.length (bvs bs) * R)
def TakeYesS (B : Nat) (w0 : World) (R : HP) (id : Nat) (d : List UInt8) (e : Ending) (w' : World) : Prop := ∃ a c, e = .returned (.tuple #[.int .i64 id, .slice a d.length c, .bool true]) ∧ St B w0 w' (row 5 1 (.slice a d.length c) d.length (bvs d) * R)
set_option maxRecDepth 100000 in
set_option maxHeartbeats 400000 in
theorem bclone_st (a : Option Addr) (c : Nat) (bs : List UInt8) (w : World) (h : BS w (.slice a bs.length c) bs) (hsz : bs.length ≤ 1000000) {B : Nat} {w0 : World} {R : HP} (s : St B w0 w R) :
    Calls Try.prog 88 #[.slice a bs.length c] w (RetN B w0 R bs) := by
  cases a with
  | none =>
    have hn := fun w => Lib.run_eql_slice_nil (P := Try.prog) w 37 5 none bs.length c 0 0 Try.underlying37
    have HB := Lib.hid h
    have S := Lib.hid s
    clear h s
    go_enter Try.func88, Try.ntmps88
    go_wp2_with fail
    go_ret
    have h := HB.out
    have q := h.rd.2.2.2.1 rfl
    have q2 := h.rd.2.1
    have : bs = [] := List.eq_nil_of_length_eq_zero (by omega)
    subst this
    exact ⟨none, 0, rfl, S.out.rowNil _ _⟩
  | some ad =>
    have hn := fun w => Lib.run_eql_slice_nil (P := Try.prog) w 37 5 (some ad) bs.length c 0 0 Try.underlying37
    have HB := Lib.hid (h.alloc (.cells #[] 5))
    have s0 := Lib.hid (s.alloc (.cells #[] 5))
    clear h s
    go_enter Try.func88, Try.ntmps88
    go_wp2_with (at_builtin; go_must (refine wpl_append rfl _ _ rfl tB (s0.out.rowMk (n := 0) (cap := 0) (xs := []) (Nat.le_refl _) (Nat.zero_le _) (by simp) rfl) (some ad) bs.length c (bvs bs) rfl rfl HB.out.rd.2.2.2.2 (fun e => by cases e) (by simp) (bvs_one _) (by unfold maxLen; omega) (by omega) ?_); intro v' w' s2 hv; rw [List.nil_append, Nat.zero_add] at s2; have hx := s2.rowSlice; have S2 := Lib.hid s2; clear s2 hv s0)
    go_ret
    obtain ⟨a9, c9, rfl, -⟩ := hx
    exact ⟨_, _, rfl, S2.out⟩
set_option maxRecDepth 100000 in
set_option maxHeartbeats 1600000 in
theorem take_stw (bk off c : Nat) (b : List UInt8) (w : World) {B : Nat} {w0 : World} {R : HP} (hrd : Reads B w0 R (.slice (some ⟨bk, off, none⟩) 96 c) b) (hl : b.length = 96) (s : St B w0 w R) :
    Calls Try.prog 66 #[.slice (some ⟨bk, off, none⟩) 96 c] w (if good b then TakeYesS B w0 R (dec b 4) (dat b) else RetS B w0 R (.tuple #[.int .i64 0, .slice none 0 0, .bool false])) := by
  have h := hrd w emp (s.eq (emp_sep _).symm)
  have HRD := Lib.hid hrd
  have S := Lib.hid s
  clear hrd s
  obtain ⟨-, hbc, hcm, -, hr⟩ := h.rd
  have hc : ∀ j, j < 96 → w.cell? ⟨bk, off + j, none⟩ = some (bv (at' b j)) := by
    intro j hj
    obtain ⟨b', off', e, q⟩ := hr.at (by intro e; have := congrArg List.length e; rw [List.length_map, List.length_nil] at this; omega)
    cases e
    rw [q j _ (bvs_get (show j < b.length by omega)), at_get]
  have HB := Lib.hid h
  have HL := Lib.hid hl
  have HC := Lib.hid hc
  have hc1 := hc 1 (by omega)
  have hcap : 96 ≤ c := by omega
  clear h hr hc hl hbc
  by_cases h64 : 64 < (at' b 1).toNat
  · rw [if_neg (fun g => by have := g.2.1; omega)]
    have h64' : (64 : Int) < ((at' b 1).toNat : Int) := by omega
    go_enter Try.func66, Try.ntmps66
    go_wp2_with fail
    go_ret3
    exact ⟨rfl, S.out⟩
  · have h64' : ((at' b 1).toNat : Int) ≤ 64 := by omega
    have hs : ∀ w, (Instr.sliceAt 37 (.slice (some ⟨bk, off, none⟩) 96 c) (some (.int .i64 4)) (some (.int .i64 8)) none).run Try.prog w = .ok (.slice (some ⟨bk, off + 4, none⟩) 4 (c - 4)) w := fun w => by
      have q := run_slice_sl tB w (some ⟨bk, off, none⟩) 96 c (some (.int .i64 4)) (some (.int .i64 8)) 4 8 (.inr ⟨_, rfl⟩) (.inr ⟨_, rfl⟩) (by omega) (by omega)
      rw [← subA_pos bk off c 4 (by omega) (by omega)]
      exact q
    have hcc : c ≤ 9223372036854775807 := by unfold maxLen at hcm; omega
    go_enter Try.func66, Try.ntmps66
    go_wp2_with fail
    go_loop [5, 7, 23] (fun v5 _ v23 => ∃ k : Nat, k ≤ 4 ∧ v23 = .int .i64 k ∧ v5 = .int .i64 (dec b k : Int)) (fun _ _ v23 => 4 - (intOf v23).toNat)
    case atStart => exact ⟨0, by omega, rfl, rfl⟩
    case round =>
      obtain ⟨k, hk, rfl, rfl⟩ := hrel
      by_cases hlt : k < 4
      · have hck := HC.out (4 + k) (by omega)
        rw [← Nat.add_assoc] at hck
        have hd1 : (dec b k : Int) < 16777216 := by
          have := dec_lt b k
          have q : 256 ^ k ≤ 256 ^ 3 := Nat.pow_le_pow_right (by omega) (by omega)
          have q2 : (256 : Nat) ^ 3 = 16777216 := by decide
          omega
        have hd0 : (0 : Int) ≤ (dec b k : Int) := by omega
        have hy := UInt8.toNat_lt (at' b (4 + k))
        have hor := or_byte (dec b k) (at' b (4 + k)).toNat (by omega) hy
        have hor2 : Value.int .i64 (bits .or .i64 ((dec b k : Int) * 256) (wrap64 ((at' b (4 + k)).toNat : Int))) = .int .i64 (dec b (k + 1) : Int) := by
          have e : wrap64 ((at' b (4 + k)).toNat : Int) = ((at' b (4 + k)).toNat : Int) := by unfold wrap64; omega
          rw [e, hor]; rfl
        have HOR := Lib.hid hor2
        clear hor hor2 hy HC HL
        generalize (dec b k : Int) = cu at hd1 hd0 HOR ⊢
        go_wp2_with fail
        go_round
        case rel => exact ⟨k + 1, by omega, by go_num, HOR.out⟩
        case measure => simp [intOf]; omega
      · obtain rfl : k = 4 := by omega
        clear hlt hk
        have hdl := dat_len b HL.out (by omega)
        have hdec : dec b 4 < 4294967296 := by have := dec_lt b 4; have q2 : (256 : Nat) ^ 4 = 4294967296 := by decide
                                               omega
        have hs12 : ∀ w, (Instr.sliceAt 37 (.slice (some ⟨bk, off, none⟩) 96 c) (some (.int .i64 12)) (some (.int .i64 (12 + ((at' b 1).toNat : Int)))) none).run Try.prog w = .ok (.slice (some ⟨bk, off + 12, none⟩) (at' b 1).toNat (c - 12)) w := fun w => by
          have q := run_slice_sl tB w (some ⟨bk, off, none⟩) 96 c (some (.int .i64 12)) (some (.int .i64 ((12 + (at' b 1).toNat : Nat) : Int))) 12 (12 + (at' b 1).toNat) (.inr ⟨_, rfl⟩) (.inr ⟨_, rfl⟩) (by omega) (by omega)
          rw [← subA_pos bk off c 12 (by omega) (by omega)]
          rw [Nat.add_sub_cancel_left] at q
          exact q
        have hbd : BS w (.slice (some ⟨bk, off + 12, none⟩) (at' b 1).toNat (c - 12)) (dat b) := by
          have q := HB.out.sub 12 (12 + (at' b 1).toNat) (by omega) (by rw [HL.out]; omega)
          rw [subA_pos bk off c 12 (by omega) (by omega), Nat.add_sub_cancel_left] at q
          exact q
        rw [← hdl] at hbd hs12
        have hcl := bclone_st (some ⟨bk, off + 12, none⟩) (c - 12) (dat b) w hbd (by omega) S.out
        have hgood : good b ↔ frm (dec b 4) (dat b) = b := ⟨fun g => g.2.2, fun g => ⟨HL.out, by omega, g⟩⟩
        have HG := Lib.hid hgood
        have HCL := Lib.hid hcl
        have HDL := Lib.hid hdl
        rw [← hdl] at h64'
        have hdl64 : (dat b).length ≤ 64 := by omega
        have hc1' : w.cell? ⟨bk, off + 1, none⟩ = some (.int .u8 ((dat b).length : Int)) := by rw [hdl]; exact hc1
        have HDEC := Lib.hid hdec
        clear hcl hbd HC h64 hs hdl hgood hc1 hdec
        generalize hD : dat b = D at hs12 hc1' hdl64 HCL HG HDL h64'
        have HD := Lib.hid hD
        clear hD
        generalize hI : dec b 4 = id at HDEC HG ⊢
        have HI := Lib.hid hI
        clear hI
        go_wp2_with fail
        refine HCL.out.mono ?_
        rintro e w1 ⟨a1, c1, rfl, s1⟩
        have S1 := Lib.hid s1
        clear s1 HCL hs12 hc1' S
        go_wp2_with fail
        refine (put_yes id HDEC.out a1 c1 D hdl64 w1 S1.out.bs S1.out).mono ?_
        rintro e w2 ⟨g, rfl, -, -, s2⟩
        have S2 := Lib.hid s2
        clear s2 S1
        go_wp2_with fail
        refine (equal_calls _ _ (frm id D) b w2 S2.out.bs (HRD.out w2 _ (S2.out.eq (sep_assoc _ _ _).symm))).mono ?_
        rintro e w3 ⟨rfl, rfl⟩
        by_cases hg : frm id D = b
        · rw [decide_eq_true hg]
          have HGG := Lib.hid (HG.out.2 hg)
          clear hg
          go_wp2_with fail
          go_ret3
          first | rw [if_pos HGG.out] | skip
          rw [HI.out, HD.out]
          exact ⟨_, _, rfl, S2.out.right⟩
        · rw [decide_eq_false hg]
          have HGG := Lib.hid (fun k => hg (HG.out.1 k))
          clear hg
          go_wp2_with fail
          go_ret3
          first | rw [if_neg HGG.out] | skip
          exact ⟨rfl, S2.out.right.right⟩
set_option maxRecDepth 100000 in
set_option maxHeartbeats 400000 in
theorem holds_st (bk off c id : Nat) (hid : id < 4294967296) (data : List UInt8) (hd : data.length ≤ 64) (w : World) {B : Nat} {w0 : World} {R : HP} (h : Reads B w0 R (.slice (some ⟨bk, off, none⟩) 96 c) (frm id data)) (s : St B w0 w R) :
    Calls Try.prog 63 #[.slice (some ⟨bk, off, none⟩) 96 c, .int .i64 (id : Int)] w fun e w' => ∃ a c, e = .returned (.tuple #[.slice a data.length c, .bool true]) ∧ St B w0 w' (row 5 1 (.slice a data.length c) data.length (bvs data) * R) := by
  have q := take_stw bk off c _ w h (frm_len id data hd) s
  rw [if_pos (good_frm id hid data hd), dec_frm id hid, dat_frm id data hd] at q
  have HT := Lib.hid q
  have e0 : ((id : Int) != (id : Int)) = false := by simp
  clear h s q
  go_enter Try.func63, Try.ntmps63
  go_wp2_with fail
  refine HT.out.mono ?_
  rintro e w1 ⟨a1, c1, rfl, s1⟩
  have S1 := Lib.hid s1
  clear s1 HT
  go_wp2_with fail
  go_ret2
  exact ⟨_, _, rfl, S1.out⟩
end Go.Proofs.Ytmilfilmhkpjoaa.FrmW
