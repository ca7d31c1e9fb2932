/- DiskFuses, walked. -/
import Derived.Test.YteikpbangjpilaaDskL1
namespace Go.Proofs.Yteikpbangjpilaa.DskL
open Go Go.RowKit Go.Proofs.Yteikpbangjpilaa Go.Proofs.Yteikpbangjpilaa.Sp Go.Proofs.Yteikpbangjpilaa.Reg Go.Proofs.Yteikpbangjpilaa.SlW Go.Proofs.Yteikpbangjpilaa.Fus Go.Proofs.Yteikpbangjpilaa.DskN Go.Proofs.Yteikpbangjpilaa.Rd Go.Proofs.Yteikpbangjpilaa.DskW
/-- The Fuse behind so many writes. -/
def Fst (K i : Nat) : Fu := ⟨K - i, decide (1 ≤ K)⟩
def small (D : Dk) (n : Nat) : Prop := D.lasts.length = 4 ∧ D.gone = false ∧ D.pend.length ≤ n
theorem fst_new (K : Nat) : Fu.new (K : Int) = Fst K 0 := by
  show (⟨(K : Int).toNat, decide (1 ≤ (K : Int))⟩ : Fu) = ⟨K - 0, decide (1 ≤ K)⟩
  rw [show decide (1 ≤ (K : Int)) = decide (1 ≤ K) from by rw [Bool.eq_iff_iff]; simp; omega]
  rfl
theorem fst_dead (K i : Nat) : fdead (some (Fst K i)) = decide (1 ≤ K ∧ K ≤ i) := by
  unfold fdead Fst
  rw [Bool.eq_iff_iff]
  simp
  omega
theorem wr_small {K i : Nat} {D : Dk} {q : Nat} {bs : List UInt8} (h : small D i) (hq : q < 4) (hb : bs.length = 96) :
    ∃ D', dWrite (some (Fst K i)) D q bs = (if 1 ≤ K ∧ K ≤ i then 4 else 0, some (Fst K (i + 1)), D') ∧ small D' (i + 1) := by
  obtain ⟨h1, h2, h3⟩ := h
  by_cases hd : 1 ≤ K ∧ K ≤ i
  · refine ⟨D, ?_, h1, h2, by omega⟩
    unfold dWrite
    rw [if_neg (by simp only [Classical.not_not]; exact ⟨⟨by omega, by omega⟩, hb⟩), if_neg (by simp [h2]), if_pos (by rw [fst_dead]; simpa using hd), if_pos hd]
    have : Fst K i = Fst K (i + 1) := by unfold Fst; congr 1; omega
    rw [this]
  · refine ⟨⟨D.lasts, D.pend ++ [(q, bs)], D.gone⟩, ?_, h1, h2, by simp; omega⟩
    unfold dWrite
    rw [if_neg (by simp only [Classical.not_not]; exact ⟨⟨by omega, by omega⟩, hb⟩), if_neg (by simp [h2]), if_neg (by rw [fst_dead]; simpa using hd), if_neg hd]
    have : fspend (some (Fst K i)) = some (Fst K (i + 1)) := by
      unfold fspend Fst
      by_cases hk : 1 ≤ K
      · simp [hk]; omega
      · obtain rfl : K = 0 := by omega
        simp
    rw [this]
    rfl
theorem sy_small {K i : Nat} {D : Dk} (h : small D i) : ∃ D', dSync (some (Fst K i)) D = (if 1 ≤ K ∧ K ≤ i then 4 else 0, D') ∧ small D' i := by
  obtain ⟨h1, h2, h3⟩ := h
  unfold dSync
  rw [if_neg (by simp [h2]), fst_dead]
  by_cases hd : 1 ≤ K ∧ K ≤ i
  · exact ⟨D, by simp [hd], h1, h2, h3⟩
  · exact ⟨⟨lastK D.pend.length 0 D.pend D.lasts D.pend.length, [], D.gone⟩, by simp [hd], (lastK_len _ _ _ _ _).trans h1, h2, by simp⟩
def RBool (_w : World) (cs : List Value) (b : Bool) : Prop := cs = [.bool b]
open Go.ChangeShapes Go.WideShapes in
theorem open_boolE {H : Type} {enc : TypeId × Value → H} {W : World} {base : Nat} {held : Bool} (fuel : Nat) (cs : List Value) (x : DataW H × List MemPlace) (_hl : cs.length = 1)
    (h : DataW.trod enc Try.prog W base (fun _ => true) held fuel 4 cs = some x) : ∃ y, RBool W cs y := by
  obtain ⟨b, hb, _⟩ := DataW.trod_bool Try.underlying4 h
  exact ⟨b, hb⟩
set_option maxRecDepth 100000 in
set_option maxHeartbeats 8000000 in
theorem fuses_zero (k0 : Int) (a : Option Addr) (ca : Nat) (l : List Bool) (w0 : World) (k1 : bits .and .i64 k0 31 = 0) (hlm : l.length ≤ 9223372036854775807) (Hl : Hid (Elems RBool 1 w0 (.slice a l.length ca) l)) :
    Calls Try.prog 9 #[.int .i64 k0, .slice a l.length ca] w0 fun e w' => e = .returned (.bool true) ∧ Below w0.heap.size w0 w' := by
  go_enter Try.func9, Try.ntmps9
  go_wp2_with fail
  refine (newFuse_calls 0 _ (by omega) (St.init w0)).mono ?_
  rintro e w1 ⟨p, rfl, s1⟩
  obtain ⟨fb, rfl, -, -⟩ := fz_some s1
  rw [show Fu.new 0 = Fst 0 0 from rfl] at s1
  have S1 := Lib.hid s1
  clear s1
  go_wp2_with fail
  refine (new_calls 4 (some ⟨fb, 0, none⟩) _ S1.out).mono ?_
  rintro e w2 ⟨p, rfl, s2⟩
  obtain ⟨da, _, _, _, _, rfl, -⟩ := dk_open s2
  have S2 := Lib.hid s2
  clear s2
  clear S1
  go_wp2_with fail
  refine (new_calls 4 (some ⟨fb, 0, none⟩) _ S2.out).mono ?_
  rintro e w3 ⟨p, rfl, s3⟩
  obtain ⟨db, _, _, _, _, rfl, -⟩ := dk_open s3
  have s3 : St w0.heap.size w0 w3 (dk (.pointer (some ⟨db, 0, none⟩)) (.pointer (some ⟨fb, 0, none⟩)) (Dk.new 4) * (dk (.pointer (some ⟨da, 0, none⟩)) (.pointer (some ⟨fb, 0, none⟩)) (Dk.new 4) * (fz (.pointer (some ⟨fb, 0, none⟩)) (some (Fst 0 0)) * emp))) := s3
  have S3 := Lib.hid (s3.eq (Q := dk (.pointer (some ⟨da, 0, none⟩)) (.pointer (some ⟨fb, 0, none⟩)) (Dk.new 4) * (dk (.pointer (some ⟨db, 0, none⟩)) (.pointer (some ⟨fb, 0, none⟩)) (Dk.new 4) * (fz (.pointer (some ⟨fb, 0, none⟩)) (some (Fst 0 0)) * emp))) (by ac_rfl))
  clear s3 S2
  go_wp2_with fail
  go_loopw [8, 9] (fun dn i wr => ∃ (k : Nat) (Da Db : Dk), k ≤ l.length ∧ k ≤ 60 ∧ dn = .int .i64 k ∧ i = .int .i64 k ∧ small Da k ∧ small Db k ∧ St w0.heap.size w0 wr (dk (.pointer (some ⟨da, 0, none⟩)) (.pointer (some ⟨fb, 0, none⟩)) Da * (dk (.pointer (some ⟨db, 0, none⟩)) (.pointer (some ⟨fb, 0, none⟩)) Db * (fz (.pointer (some ⟨fb, 0, none⟩)) (some (Fst 0 k)) * emp)))) (fun _ i _ => 60 - (intOf i).toNat)
  case atStart => exact ⟨0, Dk.new 4, Dk.new 4, Nat.zero_le _, Nat.zero_le _, rfl, rfl, ⟨rfl, rfl, Nat.le_refl _⟩, ⟨rfl, rfl, Nat.le_refl _⟩, S3.out⟩
  case round =>
    obtain ⟨k, Da, Db, hk1, hk2, rfl, rfl, hda, hdb, s5⟩ := hrel
    have HDA := Lib.hid hda
    have HDB := Lib.hid hdb
    clear hda hdb S3
    by_cases hlt : k < l.length ∧ k < 60
    · obtain ⟨hlt1, hlt2⟩ := hlt
      obtain ⟨b0, off, cs, rfl, hcs, rfl, hcell⟩ := Hl.out.arg k hlt1
      have c0 := hcell _ _ s5 0 (by omega)
      simp at c0
      generalize l[k] = bb at c0
      have k3 := and_m2 (k : Int)
      obtain ⟨q, hq, hq4⟩ : ∃ q : Nat, (k : Int) % 4 = (q : Int) ∧ q < 4 := ⟨k % 4, by omega, by omega⟩
      rw [hq] at k3
      clear hcell hcs
      have HQ := Lib.hid hq
      clear hq
      cases bb with
      | false =>
        obtain ⟨D1, hw1, hs1⟩ := wr_small (K := 0) (q := q) (bs := full (UInt8.ofNat k)) HDA.out hq4 (full_len _)
        obtain ⟨D2, hw2, hs2⟩ := sy_small (K := 0) hs1
        have hcond1 : (if 1 ≤ 0 ∧ 0 ≤ k then (4 : Int) else 0) = 0 := if_neg (by omega)
        have hcond2 : (if 1 ≤ 0 ∧ 0 ≤ k + 1 then (4 : Int) else 0) = 0 := if_neg (by omega)
        rw [hcond1] at hw1
        rw [hcond2] at hw2
        have HW1 := Lib.hid hw1
        have HW2 := Lib.hid hw2
        have HS2 := Lib.hid hs2
        clear hw1 hw2 hs2 hcond1 hcond2
        have HF := Lib.hid (full_calls (UInt8.ofNat k) wr (s5.eq (Q := dk (.pointer (some ⟨da, 0, none⟩)) (.pointer (some ⟨fb, 0, none⟩)) Da * (fz (.pointer (some ⟨fb, 0, none⟩)) (some (Fst 0 k)) * (dk (.pointer (some ⟨db, 0, none⟩)) (.pointer (some ⟨fb, 0, none⟩)) Db * emp))) (by ac_rfl)))
        rw [show bv (UInt8.ofNat k) = .int .u8 (k : Int) from by show Value.int .u8 (((UInt8.ofNat k).toNat : Nat) : Int) = _; rw [UInt8.toNat_ofNat', Nat.mod_eq_of_lt (by omega)]] at HF
        have hmn := fun w : World => run_min2 (P := Try.prog) w .i64 #[3, 3] 3 ((k : Int) + 1) (0 : Int)
        have HPD := Lib.hid (show (Da).pend.length < 1000000 by have := (HDA.out).2.2; omega)
        have HS1 := Lib.hid hs1
        clear s5 hs1
        go_wp2_with fail
        refine HF.out.mono ?_
        rintro e w2 ⟨g, rfl, s⟩
        have S6 := Lib.hid (s.eq (Q := dk (.pointer (some ⟨da, 0, none⟩)) (.pointer (some ⟨fb, 0, none⟩)) Da * (fz (.pointer (some ⟨fb, 0, none⟩)) (some (Fst 0 k)) * (row 5 1 (.slice (some ⟨g, 0, none⟩) 96 96) 96 (bvs (full (UInt8.ofNat k))) * (dk (.pointer (some ⟨db, 0, none⟩)) (.pointer (some ⟨fb, 0, none⟩)) Db * emp)))) (by ac_rfl))
        clear s HF
        go_wp2_with fail
        refine (write_calls (some (Fst 0 k)) Da (q : Int) (full (UInt8.ofNat k)) _ (some ⟨fb, 0, none⟩) _ 96 96 w2 HPD.out (reads_right _ reads_row) (by omega) S6.out).mono ?_
        rw [HW1.out]
        rintro e w3 ⟨rfl, s⟩
        have S7 := Lib.hid s
        clear s S6
        go_wp2_with fail
        refine (sync_calls (some (Fst 0 (k + 1))) D1 _ (some ⟨fb, 0, none⟩) w3 S7.out).mono ?_
        rw [HW2.out]
        rintro e w4 ⟨rfl, s⟩
        have S8 := Lib.hid ((s.eq (Q := row 5 1 (.slice (some ⟨g, 0, none⟩) 96 96) 96 (bvs (full (UInt8.ofNat k))) * (dk (.pointer (some ⟨da, 0, none⟩)) (.pointer (some ⟨fb, 0, none⟩)) D2 * (fz (.pointer (some ⟨fb, 0, none⟩)) (some (Fst 0 (k + 1))) * (dk (.pointer (some ⟨db, 0, none⟩)) (.pointer (some ⟨fb, 0, none⟩)) Db * emp)))) (by ac_rfl)).right)
        clear s S7
        go_wp2_with fail
        go_roundw
        case rel => exact ⟨k + 1, D2, Db, by omega, by omega, by go_num, by go_num, HS2.out, ⟨HDB.out.1, HDB.out.2.1, by have := HDB.out.2.2; omega⟩, S8.out.eq (by ac_rfl)⟩
        case measure => simp [intOf]; omega
      | true =>
        obtain ⟨D1, hw1, hs1⟩ := wr_small (K := 0) (q := q) (bs := full (UInt8.ofNat k)) HDB.out hq4 (full_len _)
        obtain ⟨D2, hw2, hs2⟩ := sy_small (K := 0) hs1
        have hcond1 : (if 1 ≤ 0 ∧ 0 ≤ k then (4 : Int) else 0) = 0 := if_neg (by omega)
        have hcond2 : (if 1 ≤ 0 ∧ 0 ≤ k + 1 then (4 : Int) else 0) = 0 := if_neg (by omega)
        rw [hcond1] at hw1
        rw [hcond2] at hw2
        have HW1 := Lib.hid hw1
        have HW2 := Lib.hid hw2
        have HS2 := Lib.hid hs2
        clear hw1 hw2 hs2 hcond1 hcond2
        have HF := Lib.hid (full_calls (UInt8.ofNat k) wr (s5.eq (Q := dk (.pointer (some ⟨db, 0, none⟩)) (.pointer (some ⟨fb, 0, none⟩)) Db * (fz (.pointer (some ⟨fb, 0, none⟩)) (some (Fst 0 k)) * (dk (.pointer (some ⟨da, 0, none⟩)) (.pointer (some ⟨fb, 0, none⟩)) Da * emp))) (by ac_rfl)))
        rw [show bv (UInt8.ofNat k) = .int .u8 (k : Int) from by show Value.int .u8 (((UInt8.ofNat k).toNat : Nat) : Int) = _; rw [UInt8.toNat_ofNat', Nat.mod_eq_of_lt (by omega)]] at HF
        have hmn := fun w : World => run_min2 (P := Try.prog) w .i64 #[3, 3] 3 ((k : Int) + 1) (0 : Int)
        have HPD := Lib.hid (show (Db).pend.length < 1000000 by have := (HDB.out).2.2; omega)
        have HS1 := Lib.hid hs1
        clear s5 hs1
        go_wp2_with fail
        refine HF.out.mono ?_
        rintro e w2 ⟨g, rfl, s⟩
        have S6 := Lib.hid (s.eq (Q := dk (.pointer (some ⟨db, 0, none⟩)) (.pointer (some ⟨fb, 0, none⟩)) Db * (fz (.pointer (some ⟨fb, 0, none⟩)) (some (Fst 0 k)) * (row 5 1 (.slice (some ⟨g, 0, none⟩) 96 96) 96 (bvs (full (UInt8.ofNat k))) * (dk (.pointer (some ⟨da, 0, none⟩)) (.pointer (some ⟨fb, 0, none⟩)) Da * emp)))) (by ac_rfl))
        clear s HF
        go_wp2_with fail
        refine (write_calls (some (Fst 0 k)) Db (q : Int) (full (UInt8.ofNat k)) _ (some ⟨fb, 0, none⟩) _ 96 96 w2 HPD.out (reads_right _ reads_row) (by omega) S6.out).mono ?_
        rw [HW1.out]
        rintro e w3 ⟨rfl, s⟩
        have S7 := Lib.hid s
        clear s S6
        go_wp2_with fail
        refine (sync_calls (some (Fst 0 (k + 1))) D1 _ (some ⟨fb, 0, none⟩) w3 S7.out).mono ?_
        rw [HW2.out]
        rintro e w4 ⟨rfl, s⟩
        have S8 := Lib.hid ((s.eq (Q := row 5 1 (.slice (some ⟨g, 0, none⟩) 96 96) 96 (bvs (full (UInt8.ofNat k))) * (dk (.pointer (some ⟨db, 0, none⟩)) (.pointer (some ⟨fb, 0, none⟩)) D2 * (fz (.pointer (some ⟨fb, 0, none⟩)) (some (Fst 0 (k + 1))) * (dk (.pointer (some ⟨da, 0, none⟩)) (.pointer (some ⟨fb, 0, none⟩)) Da * emp)))) (by ac_rfl)).right)
        clear s S7
        go_wp2_with fail
        go_roundw
        case rel => exact ⟨k + 1, Da, D2, by omega, by omega, by go_num, by go_num, ⟨HDA.out.1, HDA.out.2.1, by have := HDA.out.2.2; omega⟩, HS2.out, S8.out.eq (by ac_rfl)⟩
        case measure => simp [intOf]; omega
    · have hend : l.length ≤ k ∨ k < l.length ∧ 60 ≤ k := by omega
      have S5 := Lib.hid (s5.eq (Q := fz (.pointer (some ⟨fb, 0, none⟩)) (some (Fst 0 k)) * (dk (.pointer (some ⟨da, 0, none⟩)) (.pointer (some ⟨fb, 0, none⟩)) Da * (dk (.pointer (some ⟨db, 0, none⟩)) (.pointer (some ⟨fb, 0, none⟩)) Db * emp))) (by ac_rfl))
      clear hlt s5
      rcases hend with hend | ⟨hend, hend2⟩
      · skip
        go_wp2_with fail
        refine (set_calls (Fst 0 k) _ 1 _ (by omega) S5.out).mono ?_
        rintro e w2 ⟨rfl, s⟩
        have S6 := Lib.hid s
        clear s S5
        go_wp2_with fail
        refine (spend_yes (some ⟨1, true⟩) _ _ rfl S6.out).mono ?_
        rintro e w3 ⟨rfl, s⟩
        have S7 := Lib.hid s
        clear s S6
        go_wp2_with fail
        refine (spend_no (some ⟨0, true⟩) _ _ rfl S7.out).mono ?_
        rintro e w4 ⟨rfl, s⟩
        have S8 := Lib.hid s
        clear s S7
        go_wp2_with fail
        refine (dead_calls (some ⟨0, true⟩) _ _ S8.out).mono ?_
        rintro e w5 ⟨he, s⟩
        obtain rfl : e = .returned (.bool true) := he
        have S9 := Lib.hid s
        clear s S8
        go_wp2_with fail
        refine (awake_calls _).mono ?_
        rintro e w6 ⟨rfl, h6⟩
        have HB := Lib.hid (S9.out.keep h6).below
        clear h6 S9
        go_wp2_with fail
        go_ret
        exact ⟨rfl, HB.out⟩
      · skip
        go_wp2_with fail
        refine (set_calls (Fst 0 k) _ 1 _ (by omega) S5.out).mono ?_
        rintro e w2 ⟨rfl, s⟩
        have S6 := Lib.hid s
        clear s S5
        go_wp2_with fail
        refine (spend_yes (some ⟨1, true⟩) _ _ rfl S6.out).mono ?_
        rintro e w3 ⟨rfl, s⟩
        have S7 := Lib.hid s
        clear s S6
        go_wp2_with fail
        refine (spend_no (some ⟨0, true⟩) _ _ rfl S7.out).mono ?_
        rintro e w4 ⟨rfl, s⟩
        have S8 := Lib.hid s
        clear s S7
        go_wp2_with fail
        refine (dead_calls (some ⟨0, true⟩) _ _ S8.out).mono ?_
        rintro e w5 ⟨he, s⟩
        obtain rfl : e = .returned (.bool true) := he
        have S9 := Lib.hid s
        clear s S8
        go_wp2_with fail
        refine (awake_calls _).mono ?_
        rintro e w6 ⟨rfl, h6⟩
        have HB := Lib.hid (S9.out.keep h6).below
        clear h6 S9
        go_wp2_with fail
        go_ret
        exact ⟨rfl, HB.out⟩
set_option maxRecDepth 100000 in
set_option maxHeartbeats 8000000 in
theorem fuses_pos (k0 : Int) (K : Nat) (a : Option Addr) (ca : Nat) (l : List Bool) (w0 : World) (k1 : bits .and .i64 k0 31 = (K : Int)) (hK2 : K < 32) (hKp : (0 : Int) < K) (hlm : l.length ≤ 9223372036854775807) (Hl : Hid (Elems RBool 1 w0 (.slice a l.length ca) l)) :
    Calls Try.prog 9 #[.int .i64 k0, .slice a l.length ca] w0 fun e w' => e = .returned (.bool true) ∧ Below w0.heap.size w0 w' := by
  go_enter Try.func9, Try.ntmps9
  go_wp2_with fail
  refine (newFuse_calls K _ (by omega) (St.init w0)).mono ?_
  rintro e w1 ⟨p, rfl, s1⟩
  obtain ⟨fb, rfl, -, -⟩ := fz_some s1
  rw [fst_new] at s1
  have S1 := Lib.hid s1
  clear s1
  go_wp2_with fail
  refine (new_calls 4 (some ⟨fb, 0, none⟩) _ S1.out).mono ?_
  rintro e w2 ⟨p, rfl, s2⟩
  obtain ⟨da, _, _, _, _, rfl, -⟩ := dk_open s2
  have S2 := Lib.hid s2
  clear s2
  clear S1
  go_wp2_with fail
  refine (new_calls 4 (some ⟨fb, 0, none⟩) _ S2.out).mono ?_
  rintro e w3 ⟨p, rfl, s3⟩
  obtain ⟨db, _, _, _, _, rfl, -⟩ := dk_open s3
  have s3 : St w0.heap.size w0 w3 (dk (.pointer (some ⟨db, 0, none⟩)) (.pointer (some ⟨fb, 0, none⟩)) (Dk.new 4) * (dk (.pointer (some ⟨da, 0, none⟩)) (.pointer (some ⟨fb, 0, none⟩)) (Dk.new 4) * (fz (.pointer (some ⟨fb, 0, none⟩)) (some (Fst K 0)) * emp))) := s3
  have S3 := Lib.hid (s3.eq (Q := dk (.pointer (some ⟨da, 0, none⟩)) (.pointer (some ⟨fb, 0, none⟩)) (Dk.new 4) * (dk (.pointer (some ⟨db, 0, none⟩)) (.pointer (some ⟨fb, 0, none⟩)) (Dk.new 4) * (fz (.pointer (some ⟨fb, 0, none⟩)) (some (Fst K 0)) * emp))) (by ac_rfl))
  clear s3 S2
  go_wp2_with fail
  go_loopw [8, 9] (fun dn i wr => ∃ (k : Nat) (Da Db : Dk), k ≤ l.length ∧ k ≤ 60 ∧ dn = .int .i64 k ∧ i = .int .i64 k ∧ small Da k ∧ small Db k ∧ St w0.heap.size w0 wr (dk (.pointer (some ⟨da, 0, none⟩)) (.pointer (some ⟨fb, 0, none⟩)) Da * (dk (.pointer (some ⟨db, 0, none⟩)) (.pointer (some ⟨fb, 0, none⟩)) Db * (fz (.pointer (some ⟨fb, 0, none⟩)) (some (Fst K k)) * emp)))) (fun _ i _ => 60 - (intOf i).toNat)
  case atStart => exact ⟨0, Dk.new 4, Dk.new 4, Nat.zero_le _, Nat.zero_le _, rfl, rfl, ⟨rfl, rfl, Nat.le_refl _⟩, ⟨rfl, rfl, Nat.le_refl _⟩, S3.out⟩
  case round =>
    obtain ⟨k, Da, Db, hk1, hk2, rfl, rfl, hda, hdb, s5⟩ := hrel
    have HDA := Lib.hid hda
    have HDB := Lib.hid hdb
    clear hda hdb S3
    by_cases hlt : k < l.length ∧ k < 60
    · obtain ⟨hlt1, hlt2⟩ := hlt
      obtain ⟨b0, off, cs, rfl, hcs, rfl, hcell⟩ := Hl.out.arg k hlt1
      have c0 := hcell _ _ s5 0 (by omega)
      simp at c0
      generalize l[k] = bb at c0
      have k3 := and_m2 (k : Int)
      obtain ⟨q, hq, hq4⟩ : ∃ q : Nat, (k : Int) % 4 = (q : Int) ∧ q < 4 := ⟨k % 4, by omega, by omega⟩
      rw [hq] at k3
      clear hcell hcs
      have HQ := Lib.hid hq
      clear hq
      by_cases h2 : k + 1 < K
      · have hi1 : ((k : Int) + 1) < K := by omega
        have hi2 : (k : Int) < K := by omega
        have hmin : min ((k : Int) + 1) (K : Int) = (k : Int) + 1 := by omega
        cases bb with
        | false =>
          obtain ⟨D1, hw1, hs1⟩ := wr_small (K := K) (q := q) (bs := full (UInt8.ofNat k)) HDA.out hq4 (full_len _)
          obtain ⟨D2, hw2, hs2⟩ := sy_small (K := K) hs1
          have hcond1 : (if 1 ≤ K ∧ K ≤ k then (4 : Int) else 0) = 0 := if_neg (by omega)
          have hcond2 : (if 1 ≤ K ∧ K ≤ k + 1 then (4 : Int) else 0) = 0 := if_neg (by omega)
          rw [hcond1] at hw1
          rw [hcond2] at hw2
          have HW1 := Lib.hid hw1
          have HW2 := Lib.hid hw2
          have HS2 := Lib.hid hs2
          clear hw1 hw2 hs2 hcond1 hcond2
          have HF := Lib.hid (full_calls (UInt8.ofNat k) wr (s5.eq (Q := dk (.pointer (some ⟨da, 0, none⟩)) (.pointer (some ⟨fb, 0, none⟩)) Da * (fz (.pointer (some ⟨fb, 0, none⟩)) (some (Fst K k)) * (dk (.pointer (some ⟨db, 0, none⟩)) (.pointer (some ⟨fb, 0, none⟩)) Db * emp))) (by ac_rfl)))
          rw [show bv (UInt8.ofNat k) = .int .u8 (k : Int) from by show Value.int .u8 (((UInt8.ofNat k).toNat : Nat) : Int) = _; rw [UInt8.toNat_ofNat', Nat.mod_eq_of_lt (by omega)]] at HF
          have hmn := fun w : World => run_min2 (P := Try.prog) w .i64 #[3, 3] 3 ((k : Int) + 1) (K : Int)
          have HPD := Lib.hid (show (Da).pend.length < 1000000 by have := (HDA.out).2.2; omega)
          have HS1 := Lib.hid hs1
          clear s5 hs1
          go_wp2_with fail
          refine HF.out.mono ?_
          rintro e w2 ⟨g, rfl, s⟩
          have S6 := Lib.hid (s.eq (Q := dk (.pointer (some ⟨da, 0, none⟩)) (.pointer (some ⟨fb, 0, none⟩)) Da * (fz (.pointer (some ⟨fb, 0, none⟩)) (some (Fst K k)) * (row 5 1 (.slice (some ⟨g, 0, none⟩) 96 96) 96 (bvs (full (UInt8.ofNat k))) * (dk (.pointer (some ⟨db, 0, none⟩)) (.pointer (some ⟨fb, 0, none⟩)) Db * emp)))) (by ac_rfl))
          clear s HF
          go_wp2_with fail
          refine (write_calls (some (Fst K k)) Da (q : Int) (full (UInt8.ofNat k)) _ (some ⟨fb, 0, none⟩) _ 96 96 w2 HPD.out (reads_right _ reads_row) (by omega) S6.out).mono ?_
          rw [HW1.out]
          rintro e w3 ⟨rfl, s⟩
          have S7 := Lib.hid s
          clear s S6
          go_wp2_with fail
          refine (sync_calls (some (Fst K (k + 1))) D1 _ (some ⟨fb, 0, none⟩) w3 S7.out).mono ?_
          rw [HW2.out]
          rintro e w4 ⟨rfl, s⟩
          have S8 := Lib.hid ((s.eq (Q := row 5 1 (.slice (some ⟨g, 0, none⟩) 96 96) 96 (bvs (full (UInt8.ofNat k))) * (dk (.pointer (some ⟨da, 0, none⟩)) (.pointer (some ⟨fb, 0, none⟩)) D2 * (fz (.pointer (some ⟨fb, 0, none⟩)) (some (Fst K (k + 1))) * (dk (.pointer (some ⟨db, 0, none⟩)) (.pointer (some ⟨fb, 0, none⟩)) Db * emp)))) (by ac_rfl)).right)
          clear s S7
          go_wp2_with fail
          go_roundw
          case rel => exact ⟨k + 1, D2, Db, by omega, by omega, by go_num, by go_num, HS2.out, ⟨HDB.out.1, HDB.out.2.1, by have := HDB.out.2.2; omega⟩, S8.out.eq (by ac_rfl)⟩
          case measure => simp [intOf]; omega
        | true =>
          obtain ⟨D1, hw1, hs1⟩ := wr_small (K := K) (q := q) (bs := full (UInt8.ofNat k)) HDB.out hq4 (full_len _)
          obtain ⟨D2, hw2, hs2⟩ := sy_small (K := K) hs1
          have hcond1 : (if 1 ≤ K ∧ K ≤ k then (4 : Int) else 0) = 0 := if_neg (by omega)
          have hcond2 : (if 1 ≤ K ∧ K ≤ k + 1 then (4 : Int) else 0) = 0 := if_neg (by omega)
          rw [hcond1] at hw1
          rw [hcond2] at hw2
          have HW1 := Lib.hid hw1
          have HW2 := Lib.hid hw2
          have HS2 := Lib.hid hs2
          clear hw1 hw2 hs2 hcond1 hcond2
          have HF := Lib.hid (full_calls (UInt8.ofNat k) wr (s5.eq (Q := dk (.pointer (some ⟨db, 0, none⟩)) (.pointer (some ⟨fb, 0, none⟩)) Db * (fz (.pointer (some ⟨fb, 0, none⟩)) (some (Fst K k)) * (dk (.pointer (some ⟨da, 0, none⟩)) (.pointer (some ⟨fb, 0, none⟩)) Da * emp))) (by ac_rfl)))
          rw [show bv (UInt8.ofNat k) = .int .u8 (k : Int) from by show Value.int .u8 (((UInt8.ofNat k).toNat : Nat) : Int) = _; rw [UInt8.toNat_ofNat', Nat.mod_eq_of_lt (by omega)]] at HF
          have hmn := fun w : World => run_min2 (P := Try.prog) w .i64 #[3, 3] 3 ((k : Int) + 1) (K : Int)
          have HPD := Lib.hid (show (Db).pend.length < 1000000 by have := (HDB.out).2.2; omega)
          have HS1 := Lib.hid hs1
          clear s5 hs1
          go_wp2_with fail
          refine HF.out.mono ?_
          rintro e w2 ⟨g, rfl, s⟩
          have S6 := Lib.hid (s.eq (Q := dk (.pointer (some ⟨db, 0, none⟩)) (.pointer (some ⟨fb, 0, none⟩)) Db * (fz (.pointer (some ⟨fb, 0, none⟩)) (some (Fst K k)) * (row 5 1 (.slice (some ⟨g, 0, none⟩) 96 96) 96 (bvs (full (UInt8.ofNat k))) * (dk (.pointer (some ⟨da, 0, none⟩)) (.pointer (some ⟨fb, 0, none⟩)) Da * emp)))) (by ac_rfl))
          clear s HF
          go_wp2_with fail
          refine (write_calls (some (Fst K k)) Db (q : Int) (full (UInt8.ofNat k)) _ (some ⟨fb, 0, none⟩) _ 96 96 w2 HPD.out (reads_right _ reads_row) (by omega) S6.out).mono ?_
          rw [HW1.out]
          rintro e w3 ⟨rfl, s⟩
          have S7 := Lib.hid s
          clear s S6
          go_wp2_with fail
          refine (sync_calls (some (Fst K (k + 1))) D1 _ (some ⟨fb, 0, none⟩) w3 S7.out).mono ?_
          rw [HW2.out]
          rintro e w4 ⟨rfl, s⟩
          have S8 := Lib.hid ((s.eq (Q := row 5 1 (.slice (some ⟨g, 0, none⟩) 96 96) 96 (bvs (full (UInt8.ofNat k))) * (dk (.pointer (some ⟨db, 0, none⟩)) (.pointer (some ⟨fb, 0, none⟩)) D2 * (fz (.pointer (some ⟨fb, 0, none⟩)) (some (Fst K (k + 1))) * (dk (.pointer (some ⟨da, 0, none⟩)) (.pointer (some ⟨fb, 0, none⟩)) Da * emp)))) (by ac_rfl)).right)
          clear s S7
          go_wp2_with fail
          go_roundw
          case rel => exact ⟨k + 1, Da, D2, by omega, by omega, by go_num, by go_num, ⟨HDA.out.1, HDA.out.2.1, by have := HDA.out.2.2; omega⟩, HS2.out, S8.out.eq (by ac_rfl)⟩
          case measure => simp [intOf]; omega
      · have hmin : min ((k : Int) + 1) (K : Int) = (K : Int) := by omega
        by_cases h3 : k < K
        · have hi2 : (k : Int) < K := by omega
          cases bb with
          | false =>
            obtain ⟨D1, hw1, hs1⟩ := wr_small (K := K) (q := q) (bs := full (UInt8.ofNat k)) HDA.out hq4 (full_len _)
            obtain ⟨D2, hw2, hs2⟩ := sy_small (K := K) hs1
            have hcond1 : (if 1 ≤ K ∧ K ≤ k then (4 : Int) else 0) = 0 := if_neg (by omega)
            have hcond2 : (if 1 ≤ K ∧ K ≤ k + 1 then (4 : Int) else 0) = 4 := if_pos (by omega)
            rw [hcond1] at hw1
            rw [hcond2] at hw2
            have HW1 := Lib.hid hw1
            have HW2 := Lib.hid hw2
            have HS2 := Lib.hid hs2
            clear hw1 hw2 hs2 hcond1 hcond2
            have HF := Lib.hid (full_calls (UInt8.ofNat k) wr (s5.eq (Q := dk (.pointer (some ⟨da, 0, none⟩)) (.pointer (some ⟨fb, 0, none⟩)) Da * (fz (.pointer (some ⟨fb, 0, none⟩)) (some (Fst K k)) * (dk (.pointer (some ⟨db, 0, none⟩)) (.pointer (some ⟨fb, 0, none⟩)) Db * emp))) (by ac_rfl)))
            rw [show bv (UInt8.ofNat k) = .int .u8 (k : Int) from by show Value.int .u8 (((UInt8.ofNat k).toNat : Nat) : Int) = _; rw [UInt8.toNat_ofNat', Nat.mod_eq_of_lt (by omega)]] at HF
            have hmn := fun w : World => run_min2 (P := Try.prog) w .i64 #[3, 3] 3 ((k : Int) + 1) (K : Int)
            have HPD := Lib.hid (show (Da).pend.length < 1000000 by have := (HDA.out).2.2; omega)
            have HS1 := Lib.hid hs1
            clear s5 hs1
            go_wp2_with fail
            refine HF.out.mono ?_
            rintro e w2 ⟨g, rfl, s⟩
            have S6 := Lib.hid (s.eq (Q := dk (.pointer (some ⟨da, 0, none⟩)) (.pointer (some ⟨fb, 0, none⟩)) Da * (fz (.pointer (some ⟨fb, 0, none⟩)) (some (Fst K k)) * (row 5 1 (.slice (some ⟨g, 0, none⟩) 96 96) 96 (bvs (full (UInt8.ofNat k))) * (dk (.pointer (some ⟨db, 0, none⟩)) (.pointer (some ⟨fb, 0, none⟩)) Db * emp)))) (by ac_rfl))
            clear s HF
            go_wp2_with fail
            refine (write_calls (some (Fst K k)) Da (q : Int) (full (UInt8.ofNat k)) _ (some ⟨fb, 0, none⟩) _ 96 96 w2 HPD.out (reads_right _ reads_row) (by omega) S6.out).mono ?_
            rw [HW1.out]
            rintro e w3 ⟨rfl, s⟩
            have S7 := Lib.hid s
            clear s S6
            go_wp2_with fail
            refine (sync_calls (some (Fst K (k + 1))) D1 _ (some ⟨fb, 0, none⟩) w3 S7.out).mono ?_
            rw [HW2.out]
            rintro e w4 ⟨rfl, s⟩
            have S8 := Lib.hid ((s.eq (Q := row 5 1 (.slice (some ⟨g, 0, none⟩) 96 96) 96 (bvs (full (UInt8.ofNat k))) * (dk (.pointer (some ⟨da, 0, none⟩)) (.pointer (some ⟨fb, 0, none⟩)) D2 * (fz (.pointer (some ⟨fb, 0, none⟩)) (some (Fst K (k + 1))) * (dk (.pointer (some ⟨db, 0, none⟩)) (.pointer (some ⟨fb, 0, none⟩)) Db * emp)))) (by ac_rfl)).right)
            clear s S7
            go_wp2_with fail
            go_roundw
            case rel => exact ⟨k + 1, D2, Db, by omega, by omega, by go_num, by go_num, HS2.out, ⟨HDB.out.1, HDB.out.2.1, by have := HDB.out.2.2; omega⟩, S8.out.eq (by ac_rfl)⟩
            case measure => simp [intOf]; omega
          | true =>
            obtain ⟨D1, hw1, hs1⟩ := wr_small (K := K) (q := q) (bs := full (UInt8.ofNat k)) HDB.out hq4 (full_len _)
            obtain ⟨D2, hw2, hs2⟩ := sy_small (K := K) hs1
            have hcond1 : (if 1 ≤ K ∧ K ≤ k then (4 : Int) else 0) = 0 := if_neg (by omega)
            have hcond2 : (if 1 ≤ K ∧ K ≤ k + 1 then (4 : Int) else 0) = 4 := if_pos (by omega)
            rw [hcond1] at hw1
            rw [hcond2] at hw2
            have HW1 := Lib.hid hw1
            have HW2 := Lib.hid hw2
            have HS2 := Lib.hid hs2
            clear hw1 hw2 hs2 hcond1 hcond2
            have HF := Lib.hid (full_calls (UInt8.ofNat k) wr (s5.eq (Q := dk (.pointer (some ⟨db, 0, none⟩)) (.pointer (some ⟨fb, 0, none⟩)) Db * (fz (.pointer (some ⟨fb, 0, none⟩)) (some (Fst K k)) * (dk (.pointer (some ⟨da, 0, none⟩)) (.pointer (some ⟨fb, 0, none⟩)) Da * emp))) (by ac_rfl)))
            rw [show bv (UInt8.ofNat k) = .int .u8 (k : Int) from by show Value.int .u8 (((UInt8.ofNat k).toNat : Nat) : Int) = _; rw [UInt8.toNat_ofNat', Nat.mod_eq_of_lt (by omega)]] at HF
            have hmn := fun w : World => run_min2 (P := Try.prog) w .i64 #[3, 3] 3 ((k : Int) + 1) (K : Int)
            have HPD := Lib.hid (show (Db).pend.length < 1000000 by have := (HDB.out).2.2; omega)
            have HS1 := Lib.hid hs1
            clear s5 hs1
            go_wp2_with fail
            refine HF.out.mono ?_
            rintro e w2 ⟨g, rfl, s⟩
            have S6 := Lib.hid (s.eq (Q := dk (.pointer (some ⟨db, 0, none⟩)) (.pointer (some ⟨fb, 0, none⟩)) Db * (fz (.pointer (some ⟨fb, 0, none⟩)) (some (Fst K k)) * (row 5 1 (.slice (some ⟨g, 0, none⟩) 96 96) 96 (bvs (full (UInt8.ofNat k))) * (dk (.pointer (some ⟨da, 0, none⟩)) (.pointer (some ⟨fb, 0, none⟩)) Da * emp)))) (by ac_rfl))
            clear s HF
            go_wp2_with fail
            refine (write_calls (some (Fst K k)) Db (q : Int) (full (UInt8.ofNat k)) _ (some ⟨fb, 0, none⟩) _ 96 96 w2 HPD.out (reads_right _ reads_row) (by omega) S6.out).mono ?_
            rw [HW1.out]
            rintro e w3 ⟨rfl, s⟩
            have S7 := Lib.hid s
            clear s S6
            go_wp2_with fail
            refine (sync_calls (some (Fst K (k + 1))) D1 _ (some ⟨fb, 0, none⟩) w3 S7.out).mono ?_
            rw [HW2.out]
            rintro e w4 ⟨rfl, s⟩
            have S8 := Lib.hid ((s.eq (Q := row 5 1 (.slice (some ⟨g, 0, none⟩) 96 96) 96 (bvs (full (UInt8.ofNat k))) * (dk (.pointer (some ⟨db, 0, none⟩)) (.pointer (some ⟨fb, 0, none⟩)) D2 * (fz (.pointer (some ⟨fb, 0, none⟩)) (some (Fst K (k + 1))) * (dk (.pointer (some ⟨da, 0, none⟩)) (.pointer (some ⟨fb, 0, none⟩)) Da * emp)))) (by ac_rfl)).right)
            clear s S7
            go_wp2_with fail
            go_roundw
            case rel => exact ⟨k + 1, Da, D2, by omega, by omega, by go_num, by go_num, ⟨HDA.out.1, HDA.out.2.1, by have := HDA.out.2.2; omega⟩, HS2.out, S8.out.eq (by ac_rfl)⟩
            case measure => simp [intOf]; omega
        · have hi2 : (K : Int) ≤ k := by omega
          cases bb with
          | false =>
            obtain ⟨D1, hw1, hs1⟩ := wr_small (K := K) (q := q) (bs := full (UInt8.ofNat k)) HDA.out hq4 (full_len _)
            obtain ⟨D2, hw2, hs2⟩ := sy_small (K := K) hs1
            have hcond1 : (if 1 ≤ K ∧ K ≤ k then (4 : Int) else 0) = 4 := if_pos (by omega)
            have hcond2 : (if 1 ≤ K ∧ K ≤ k + 1 then (4 : Int) else 0) = 4 := if_pos (by omega)
            rw [hcond1] at hw1
            rw [hcond2] at hw2
            have HW1 := Lib.hid hw1
            have HW2 := Lib.hid hw2
            have HS2 := Lib.hid hs2
            clear hw1 hw2 hs2 hcond1 hcond2
            have HF := Lib.hid (full_calls (UInt8.ofNat k) wr (s5.eq (Q := dk (.pointer (some ⟨da, 0, none⟩)) (.pointer (some ⟨fb, 0, none⟩)) Da * (fz (.pointer (some ⟨fb, 0, none⟩)) (some (Fst K k)) * (dk (.pointer (some ⟨db, 0, none⟩)) (.pointer (some ⟨fb, 0, none⟩)) Db * emp))) (by ac_rfl)))
            rw [show bv (UInt8.ofNat k) = .int .u8 (k : Int) from by show Value.int .u8 (((UInt8.ofNat k).toNat : Nat) : Int) = _; rw [UInt8.toNat_ofNat', Nat.mod_eq_of_lt (by omega)]] at HF
            have hmn := fun w : World => run_min2 (P := Try.prog) w .i64 #[3, 3] 3 ((k : Int) + 1) (K : Int)
            have HPD := Lib.hid (show (Da).pend.length < 1000000 by have := (HDA.out).2.2; omega)
            have HS1 := Lib.hid hs1
            clear s5 hs1
            go_wp2_with fail
            refine HF.out.mono ?_
            rintro e w2 ⟨g, rfl, s⟩
            have S6 := Lib.hid (s.eq (Q := dk (.pointer (some ⟨da, 0, none⟩)) (.pointer (some ⟨fb, 0, none⟩)) Da * (fz (.pointer (some ⟨fb, 0, none⟩)) (some (Fst K k)) * (row 5 1 (.slice (some ⟨g, 0, none⟩) 96 96) 96 (bvs (full (UInt8.ofNat k))) * (dk (.pointer (some ⟨db, 0, none⟩)) (.pointer (some ⟨fb, 0, none⟩)) Db * emp)))) (by ac_rfl))
            clear s HF
            go_wp2_with fail
            refine (write_calls (some (Fst K k)) Da (q : Int) (full (UInt8.ofNat k)) _ (some ⟨fb, 0, none⟩) _ 96 96 w2 HPD.out (reads_right _ reads_row) (by omega) S6.out).mono ?_
            rw [HW1.out]
            rintro e w3 ⟨rfl, s⟩
            have S7 := Lib.hid s
            clear s S6
            go_wp2_with fail
            refine (sync_calls (some (Fst K (k + 1))) D1 _ (some ⟨fb, 0, none⟩) w3 S7.out).mono ?_
            rw [HW2.out]
            rintro e w4 ⟨rfl, s⟩
            have S8 := Lib.hid ((s.eq (Q := row 5 1 (.slice (some ⟨g, 0, none⟩) 96 96) 96 (bvs (full (UInt8.ofNat k))) * (dk (.pointer (some ⟨da, 0, none⟩)) (.pointer (some ⟨fb, 0, none⟩)) D2 * (fz (.pointer (some ⟨fb, 0, none⟩)) (some (Fst K (k + 1))) * (dk (.pointer (some ⟨db, 0, none⟩)) (.pointer (some ⟨fb, 0, none⟩)) Db * emp)))) (by ac_rfl)).right)
            clear s S7
            go_wp2_with fail
            go_roundw
            case rel => exact ⟨k + 1, D2, Db, by omega, by omega, by go_num, by go_num, HS2.out, ⟨HDB.out.1, HDB.out.2.1, by have := HDB.out.2.2; omega⟩, S8.out.eq (by ac_rfl)⟩
            case measure => simp [intOf]; omega
          | true =>
            obtain ⟨D1, hw1, hs1⟩ := wr_small (K := K) (q := q) (bs := full (UInt8.ofNat k)) HDB.out hq4 (full_len _)
            obtain ⟨D2, hw2, hs2⟩ := sy_small (K := K) hs1
            have hcond1 : (if 1 ≤ K ∧ K ≤ k then (4 : Int) else 0) = 4 := if_pos (by omega)
            have hcond2 : (if 1 ≤ K ∧ K ≤ k + 1 then (4 : Int) else 0) = 4 := if_pos (by omega)
            rw [hcond1] at hw1
            rw [hcond2] at hw2
            have HW1 := Lib.hid hw1
            have HW2 := Lib.hid hw2
            have HS2 := Lib.hid hs2
            clear hw1 hw2 hs2 hcond1 hcond2
            have HF := Lib.hid (full_calls (UInt8.ofNat k) wr (s5.eq (Q := dk (.pointer (some ⟨db, 0, none⟩)) (.pointer (some ⟨fb, 0, none⟩)) Db * (fz (.pointer (some ⟨fb, 0, none⟩)) (some (Fst K k)) * (dk (.pointer (some ⟨da, 0, none⟩)) (.pointer (some ⟨fb, 0, none⟩)) Da * emp))) (by ac_rfl)))
            rw [show bv (UInt8.ofNat k) = .int .u8 (k : Int) from by show Value.int .u8 (((UInt8.ofNat k).toNat : Nat) : Int) = _; rw [UInt8.toNat_ofNat', Nat.mod_eq_of_lt (by omega)]] at HF
            have hmn := fun w : World => run_min2 (P := Try.prog) w .i64 #[3, 3] 3 ((k : Int) + 1) (K : Int)
            have HPD := Lib.hid (show (Db).pend.length < 1000000 by have := (HDB.out).2.2; omega)
            have HS1 := Lib.hid hs1
            clear s5 hs1
            go_wp2_with fail
            refine HF.out.mono ?_
            rintro e w2 ⟨g, rfl, s⟩
            have S6 := Lib.hid (s.eq (Q := dk (.pointer (some ⟨db, 0, none⟩)) (.pointer (some ⟨fb, 0, none⟩)) Db * (fz (.pointer (some ⟨fb, 0, none⟩)) (some (Fst K k)) * (row 5 1 (.slice (some ⟨g, 0, none⟩) 96 96) 96 (bvs (full (UInt8.ofNat k))) * (dk (.pointer (some ⟨da, 0, none⟩)) (.pointer (some ⟨fb, 0, none⟩)) Da * emp)))) (by ac_rfl))
            clear s HF
            go_wp2_with fail
            refine (write_calls (some (Fst K k)) Db (q : Int) (full (UInt8.ofNat k)) _ (some ⟨fb, 0, none⟩) _ 96 96 w2 HPD.out (reads_right _ reads_row) (by omega) S6.out).mono ?_
            rw [HW1.out]
            rintro e w3 ⟨rfl, s⟩
            have S7 := Lib.hid s
            clear s S6
            go_wp2_with fail
            refine (sync_calls (some (Fst K (k + 1))) D1 _ (some ⟨fb, 0, none⟩) w3 S7.out).mono ?_
            rw [HW2.out]
            rintro e w4 ⟨rfl, s⟩
            have S8 := Lib.hid ((s.eq (Q := row 5 1 (.slice (some ⟨g, 0, none⟩) 96 96) 96 (bvs (full (UInt8.ofNat k))) * (dk (.pointer (some ⟨db, 0, none⟩)) (.pointer (some ⟨fb, 0, none⟩)) D2 * (fz (.pointer (some ⟨fb, 0, none⟩)) (some (Fst K (k + 1))) * (dk (.pointer (some ⟨da, 0, none⟩)) (.pointer (some ⟨fb, 0, none⟩)) Da * emp)))) (by ac_rfl)).right)
            clear s S7
            go_wp2_with fail
            go_roundw
            case rel => exact ⟨k + 1, Da, D2, by omega, by omega, by go_num, by go_num, ⟨HDA.out.1, HDA.out.2.1, by have := HDA.out.2.2; omega⟩, HS2.out, S8.out.eq (by ac_rfl)⟩
            case measure => simp [intOf]; omega
    · have hend : l.length ≤ k ∨ k < l.length ∧ 60 ≤ k := by omega
      have S5 := Lib.hid (s5.eq (Q := fz (.pointer (some ⟨fb, 0, none⟩)) (some (Fst K k)) * (dk (.pointer (some ⟨da, 0, none⟩)) (.pointer (some ⟨fb, 0, none⟩)) Da * (dk (.pointer (some ⟨db, 0, none⟩)) (.pointer (some ⟨fb, 0, none⟩)) Db * emp))) (by ac_rfl))
      clear hlt s5
      rcases hend with hend | ⟨hend, hend2⟩
      · skip
        go_wp2_with fail
        refine (set_calls (Fst K k) _ 1 _ (by omega) S5.out).mono ?_
        rintro e w2 ⟨rfl, s⟩
        have S6 := Lib.hid s
        clear s S5
        go_wp2_with fail
        refine (spend_yes (some ⟨1, true⟩) _ _ rfl S6.out).mono ?_
        rintro e w3 ⟨rfl, s⟩
        have S7 := Lib.hid s
        clear s S6
        go_wp2_with fail
        refine (spend_no (some ⟨0, true⟩) _ _ rfl S7.out).mono ?_
        rintro e w4 ⟨rfl, s⟩
        have S8 := Lib.hid s
        clear s S7
        go_wp2_with fail
        refine (dead_calls (some ⟨0, true⟩) _ _ S8.out).mono ?_
        rintro e w5 ⟨he, s⟩
        obtain rfl : e = .returned (.bool true) := he
        have S9 := Lib.hid s
        clear s S8
        go_wp2_with fail
        refine (awake_calls _).mono ?_
        rintro e w6 ⟨rfl, h6⟩
        have HB := Lib.hid (S9.out.keep h6).below
        clear h6 S9
        go_wp2_with fail
        go_ret
        exact ⟨rfl, HB.out⟩
      · skip
        go_wp2_with fail
        refine (set_calls (Fst K k) _ 1 _ (by omega) S5.out).mono ?_
        rintro e w2 ⟨rfl, s⟩
        have S6 := Lib.hid s
        clear s S5
        go_wp2_with fail
        refine (spend_yes (some ⟨1, true⟩) _ _ rfl S6.out).mono ?_
        rintro e w3 ⟨rfl, s⟩
        have S7 := Lib.hid s
        clear s S6
        go_wp2_with fail
        refine (spend_no (some ⟨0, true⟩) _ _ rfl S7.out).mono ?_
        rintro e w4 ⟨rfl, s⟩
        have S8 := Lib.hid s
        clear s S7
        go_wp2_with fail
        refine (dead_calls (some ⟨0, true⟩) _ _ S8.out).mono ?_
        rintro e w5 ⟨he, s⟩
        obtain rfl : e = .returned (.bool true) := he
        have S9 := Lib.hid s
        clear s S8
        go_wp2_with fail
        refine (awake_calls _).mono ?_
        rintro e w6 ⟨rfl, h6⟩
        have HB := Lib.hid (S9.out.keep h6).below
        clear h6 S9
        go_wp2_with fail
        go_ret
        exact ⟨rfl, HB.out⟩
theorem fuses_walk (k0 : Int) (a : Option Addr) (ca : Nat) (l : List Bool) (w0 : World) (_wk : (Lit.int .i64 k0).wf = true) (hl : Elems RBool 1 w0 (.slice a l.length ca) l) :
    Calls Try.prog 9 #[.int .i64 k0, .slice a l.length ca] w0 fun e w' => e = .returned (.bool true) ∧ Below w0.heap.size w0 w' := by
  have k1 := and_m5 k0
  obtain ⟨K, hK, hK2⟩ : ∃ K : Nat, k0 % 32 = (K : Int) ∧ K < 32 := ⟨(k0 % 32).toNat, by omega, by omega⟩
  rw [hK] at k1
  have hlm : l.length ≤ 9223372036854775807 := by obtain ⟨_, _, _, h1, h2, _⟩ := hl; unfold maxLen at h2; omega
  by_cases h0 : K = 0
  · subst h0
    exact fuses_zero k0 a ca l w0 k1 hlm (Lib.hid hl)
  · exact fuses_pos k0 K a ca l w0 k1 hK2 (by omega) hlm (Lib.hid hl)
end Go.Proofs.Yteikpbangjpilaa.DskL
