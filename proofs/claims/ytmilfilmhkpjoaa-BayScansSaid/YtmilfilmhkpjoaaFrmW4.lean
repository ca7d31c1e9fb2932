/- The walks of frame.Take, frame.Holds. -/
import Derived.Test.YtmilfilmhkpjoaaFrmW3
namespace Go.Proofs.Ytmilfilmhkpjoaa.FrmW
open Go Go.RowKit Go.Proofs.Ytmilfilmhkpjoaa Go.Proofs.Ytmilfilmhkpjoaa.Sp Go.Proofs.Ytmilfilmhkpjoaa.Reg Go.Proofs.Ytmilfilmhkpjoaa.CrcW Go.Proofs.Ytmilfilmhkpjoaa.CrcM
open Go.Proofs.Ytmilfilmhkpjoaa.SlW (RetBS RetBSok RetNo)

/-- The k-th byte. -/
def at' (b : List UInt8) (k : Nat) : UInt8 := b.getD k 0
/-- The id's first k bytes. -/
def dec (b : List UInt8) : Nat → Nat
  | 0 => 0
  | k + 1 => dec b k * 256 + (at' b (4 + k)).toNat
theorem dec_lt (b : List UInt8) : ∀ k, dec b k < 256 ^ k
  | 0 => by simp [dec]
  | k + 1 => by have := dec_lt b k; have := UInt8.toNat_lt (at' b (4 + k)); unfold dec; rw [Nat.pow_succ]; omega
/-- The data that the bytes tell. -/
def dat (b : List UInt8) : List UInt8 := (b.drop 12).take (at' b 1).toNat
def good (b : List UInt8) : Prop := b.length = 96 ∧ (at' b 1).toNat ≤ 64 ∧ frm (dec b 4) (dat b) = b
instance (b : List UInt8) : Decidable (good b) := by unfold good; exact inferInstance
/-- What Take tells: nothing. -/
def TakeNo (w : World) (e : Ending) (w' : World) : Prop := e = .returned (.tuple #[.int .i64 0, .slice none 0 0, .bool false]) ∧ Add w w'
/-- .. or a chunk. -/
def TakeYes (w : World) (id : Nat) (d : List UInt8) (e : Ending) (w' : World) : Prop := ∃ v, e = .returned (.tuple #[.int .i64 id, v, .bool true]) ∧ Add w w' ∧ BS w' v d
theorem at_get (b : List UInt8) (k : Nat) (h : k < b.length) : b[k] = at' b k := by simp [at', List.getD, List.getElem?_eq_getElem h]
theorem subA_pos (bk off c l : Nat) (h : c ≠ l) (hl : l ≠ 0) : subA (some ⟨bk, off, none⟩) c l 1 = some ⟨bk, off + l, none⟩ := by simp [subA, h, Addr.add, hl]
theorem or_byte (m y : Nat) (hm : m < 16777216) (hy : y < 256) : bits .or .i64 ((m : Int) * 256) (y : Int) = ((m * 256 + y : Nat) : Int) := by
  have e1 : (((m : Int) * 256) % ((2 ^ 64 : Nat) : Int)).toNat = 2 ^ 8 * m := by omega
  have e2 : ((y : Int) % ((2 ^ 64 : Nat) : Int)).toNat = y := by omega
  have key : (BitVec.ofInt 64 ((m : Int) * 256) ||| BitVec.ofInt 64 (y : Int)).toNat = m * 256 + y := by
    rw [BitVec.toNat_or, BitVec.toNat_ofInt, BitVec.toNat_ofInt, e1, e2, ← Nat.two_pow_add_eq_or_of_lt (by omega)]
    omega
  show IntKind.i64.wrap ((BitVec.ofInt 64 ((m : Int) * 256) ||| BitVec.ofInt 64 (y : Int)).toNat : Nat) = _
  rw [key, IntKind.wrap_i64]
  omega
theorem bs_val {w : World} {v : Value} {bs : List UInt8} (h : BS w v bs) : ∃ a c, v = .slice a bs.length c ∧ BS w (.slice a bs.length c) bs := by
  obtain ⟨a, c, e, _⟩ := id h
  exact ⟨a, c, e, e ▸ h⟩
theorem dat_len (b : List UInt8) (hl : b.length = 96) (h : (at' b 1).toNat ≤ 64) : (dat b).length = (at' b 1).toNat := by unfold dat; simp; omega
set_option maxHeartbeats 400000 in
theorem take_short (a : Option Addr) (n c : Nat) (w : World) (h : n ≠ 96) (hm : n ≤ maxLen) : Calls Try.prog 66 #[.slice a n c] w (TakeNo w) := by
  have e : ((n : Int) != 96) = true := by rw [bne_iff_ne]; omega
  clear h
  go_enter Try.func66, Try.ntmps66
  go_wp2_with fail
  go_ret3
  exact ⟨rfl, Add.refl w⟩
set_option maxHeartbeats 1600000 in
theorem take_walk (bk off c : Nat) (b : List UInt8) (w : World) (h : BS w (.slice (some ⟨bk, off, none⟩) 96 c) b) (hl : b.length = 96) :
    Calls Try.prog 66 #[.slice (some ⟨bk, off, none⟩) 96 c] w (if good b then TakeYes w (dec b 4) (dat b) else TakeNo w) := by
  obtain ⟨-, hbc, hcm, -, hr⟩ := h.rd
  have hc : ∀ j, j < 96 → w.cell? ⟨bk, off + j, none⟩ = some (bv (at' b j)) := by
    intro j hj
    obtain ⟨b', off', e, q⟩ := hr.at (by intro e; have := congrArg List.length e; rw [List.length_map, List.length_nil] at this; omega)
    cases e
    rw [q j _ (bvs_get (show j < b.length by omega)), at_get]
  have HB := Lib.hid h
  have HL := Lib.hid hl
  have HC := Lib.hid hc
  have hc1 := hc 1 (by omega)
  have hcap : 96 ≤ c := by omega
  clear h hr hc hl hbc
  by_cases h64 : 64 < (at' b 1).toNat
  · rw [if_neg (fun g => by have := g.2.1; omega)]
    have h64' : (64 : Int) < ((at' b 1).toNat : Int) := by omega
    go_enter Try.func66, Try.ntmps66
    go_wp2_with fail
    go_ret3
    exact ⟨rfl, Add.refl w⟩
  · have h64' : ((at' b 1).toNat : Int) ≤ 64 := by omega
    have hs : ∀ w, (Instr.sliceAt 37 (.slice (some ⟨bk, off, none⟩) 96 c) (some (.int .i64 4)) (some (.int .i64 8)) none).run Try.prog w = .ok (.slice (some ⟨bk, off + 4, none⟩) 4 (c - 4)) w := fun w => by
      have q := run_slice_sl tB w (some ⟨bk, off, none⟩) 96 c (some (.int .i64 4)) (some (.int .i64 8)) 4 8 (.inr ⟨_, rfl⟩) (.inr ⟨_, rfl⟩) (by omega) (by omega)
      rw [← subA_pos bk off c 4 (by omega) (by omega)]
      exact q
    have hcc : c ≤ 9223372036854775807 := by unfold maxLen at hcm; omega
    go_enter Try.func66, Try.ntmps66
    go_wp2_with fail
    go_loop [5, 7, 23] (fun v5 _ v23 => ∃ k : Nat, k ≤ 4 ∧ v23 = .int .i64 k ∧ v5 = .int .i64 (dec b k : Int)) (fun _ _ v23 => 4 - (intOf v23).toNat)
    case atStart => exact ⟨0, by omega, rfl, rfl⟩
    case round =>
      obtain ⟨k, hk, rfl, rfl⟩ := hrel
      by_cases hlt : k < 4
      · have hck := HC.out (4 + k) (by omega)
        rw [← Nat.add_assoc] at hck
        have hd1 : (dec b k : Int) < 16777216 := by
          have := dec_lt b k
          have q : 256 ^ k ≤ 256 ^ 3 := Nat.pow_le_pow_right (by omega) (by omega)
          have q2 : (256 : Nat) ^ 3 = 16777216 := by decide
          omega
        have hd0 : (0 : Int) ≤ (dec b k : Int) := by omega
        have hy := UInt8.toNat_lt (at' b (4 + k))
        have hor := or_byte (dec b k) (at' b (4 + k)).toNat (by omega) hy
        have hor2 : Value.int .i64 (bits .or .i64 ((dec b k : Int) * 256) (wrap64 ((at' b (4 + k)).toNat : Int))) = .int .i64 (dec b (k + 1) : Int) := by
          have e : wrap64 ((at' b (4 + k)).toNat : Int) = ((at' b (4 + k)).toNat : Int) := by unfold wrap64; omega
          rw [e, hor]; rfl
        have HOR := Lib.hid hor2
        clear hor hor2 hy HC HL
        generalize (dec b k : Int) = cu at hd1 hd0 HOR ⊢
        go_wp2_with fail
        go_round
        case rel => exact ⟨k + 1, by omega, by go_num, HOR.out⟩
        case measure => simp [intOf]; omega
      · obtain rfl : k = 4 := by omega
        clear hlt hk
        have hdl := dat_len b HL.out (by omega)
        have hdec : dec b 4 < 4294967296 := by have := dec_lt b 4; have q2 : (256 : Nat) ^ 4 = 4294967296 := by decide
                                               omega
        have hs12 : ∀ w, (Instr.sliceAt 37 (.slice (some ⟨bk, off, none⟩) 96 c) (some (.int .i64 12)) (some (.int .i64 (12 + ((at' b 1).toNat : Int)))) none).run Try.prog w = .ok (.slice (some ⟨bk, off + 12, none⟩) (at' b 1).toNat (c - 12)) w := fun w => by
          have q := run_slice_sl tB w (some ⟨bk, off, none⟩) 96 c (some (.int .i64 12)) (some (.int .i64 ((12 + (at' b 1).toNat : Nat) : Int))) 12 (12 + (at' b 1).toNat) (.inr ⟨_, rfl⟩) (.inr ⟨_, rfl⟩) (by omega) (by omega)
          rw [← subA_pos bk off c 12 (by omega) (by omega)]
          rw [Nat.add_sub_cancel_left] at q
          exact q
        have hbd : BS w (.slice (some ⟨bk, off + 12, none⟩) (at' b 1).toNat (c - 12)) (dat b) := by
          have q := HB.out.sub 12 (12 + (at' b 1).toNat) (by omega) (by rw [HL.out]; omega)
          rw [subA_pos bk off c 12 (by omega) (by omega), Nat.add_sub_cancel_left] at q
          exact q
        rw [← hdl] at hbd hs12
        have hcl := bclone_calls (some ⟨bk, off + 12, none⟩) (c - 12) (dat b) w hbd (by omega)
        have hgood : good b ↔ frm (dec b 4) (dat b) = b := ⟨fun g => g.2.2, fun g => ⟨HL.out, by omega, g⟩⟩
        have HG := Lib.hid hgood
        have HCL := Lib.hid hcl
        have HDL := Lib.hid hdl
        rw [← hdl] at h64'
        have hdl64 : (dat b).length ≤ 64 := by omega
        have hc1' : w.cell? ⟨bk, off + 1, none⟩ = some (.int .u8 ((dat b).length : Int)) := by rw [hdl]; exact hc1
        have HDEC := Lib.hid hdec
        clear hcl hbd HC h64 hs hdl hgood hc1 hdec
        generalize hD : dat b = D at hs12 hc1' hdl64 HCL HG HDL h64'
        have HD := Lib.hid hD
        clear hD
        generalize hI : dec b 4 = id at HDEC HG ⊢
        have HI := Lib.hid hI
        clear hI
        go_wp2_with fail
        refine HCL.out.mono ?_
        rintro e w1 ⟨v1, rfl, h1, b1⟩
        obtain ⟨a1, c1, rfl, hb1⟩ := bs_val b1
        have H1 := Lib.hid h1
        have HB1 := Lib.hid hb1
        clear h1 b1 hb1 HCL hs12 hc1'
        go_wp2_with fail
        refine (put_yes id HDEC.out a1 c1 D hdl64 w1 HB1.out (St.init w1)).mono ?_
        rintro e w2 ⟨g, rfl, h2, -, s2⟩
        have H2 := Lib.hid (H1.out.trans h2)
        have HB2 := Lib.hid s2.bs
        have HB3 := Lib.hid (HB1.out.below h2)
        clear h2 s2
        go_wp2_with fail
        refine (equal_calls _ _ (frm id D) b w2 HB2.out (HB.out.below H2.out)).mono ?_
        rintro e w3 ⟨rfl, rfl⟩
        by_cases hg : frm id D = b
        · rw [decide_eq_true hg]
          have HGG := Lib.hid (HG.out.2 hg)
          clear hg
          go_wp2_with fail
          go_ret3
          first | rw [if_pos HGG.out] | skip
          rw [HI.out, HD.out]
          exact ⟨_, rfl, H2.out, HB3.out⟩
        · rw [decide_eq_false hg]
          have HGG := Lib.hid (fun k => hg (HG.out.1 k))
          clear hg
          go_wp2_with fail
          go_ret3
          first | rw [if_neg HGG.out] | skip
          exact ⟨rfl, H2.out⟩
end Go.Proofs.Ytmilfilmhkpjoaa.FrmW
