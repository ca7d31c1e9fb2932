/- DiskRots, walked. -/
import Derived.Test.YteikpbangjpilaaDskL1
namespace Go.Proofs.Yteikpbangjpilaa.DskL
open Go Go.RowKit Go.Proofs.Yteikpbangjpilaa Go.Proofs.Yteikpbangjpilaa.Sp Go.Proofs.Yteikpbangjpilaa.Reg Go.Proofs.Yteikpbangjpilaa.SlW Go.Proofs.Yteikpbangjpilaa.Fus Go.Proofs.Yteikpbangjpilaa.DskN Go.Proofs.Yteikpbangjpilaa.Rd Go.Proofs.Yteikpbangjpilaa.DskW

/-- One byte turned. -/
def turn (l : List UInt8) (m : Nat) (x : UInt8) : List UInt8 := l.set m (l.getD m 0 ^^^ x)
theorem turn_len (l : List UInt8) (m : Nat) (x : UInt8) : (turn l m x).length = l.length := by simp [turn]
theorem turn_turn (l : List UInt8) (m : Nat) (x : UInt8) (h : m < l.length) : turn (turn l m x) m x = l := by
  unfold turn
  have e : (l.set m (l.getD m 0 ^^^ x)).getD m 0 = l.getD m 0 ^^^ x := by simp [List.getD_eq_getElem?_getD, h]
  rw [e, List.set_set, UInt8.xor_assoc, UInt8.xor_self, UInt8.xor_zero]
  simp [List.getD_eq_getElem?_getD, h]
theorem rot_lasts (L : List UInt8) (m : Nat) (x : UInt8) (hm : m < 96) : dRot ⟨[L], [], false⟩ 0 m x = (true, ⟨[turn L m x], [], false⟩) := by
  unfold dRot
  rw [if_pos ⟨by simp, by omega, by omega, rfl⟩]
  rfl
theorem rot_pend (L P : List UInt8) (m : Nat) (x : UInt8) (hm : m < 96) : dRot ⟨[L], [(0, P)], false⟩ 0 m x = (true, ⟨[L], [(0, turn P m x)], false⟩) := by
  unfold dRot
  rw [if_pos ⟨by simp, by omega, by omega, rfl⟩]
  rfl
set_option maxRecDepth 100000 in
set_option maxHeartbeats 8000000 in
theorem rots_walk (a b : UInt8) (at0 : Int) (x : UInt8) (behind keep : Bool) (w : World) (_wt : (Lit.int .i64 at0).wf = true) :
    Calls Try.prog 10 #[bv a, bv b, .int .i64 at0, bv x, .bool behind, .bool keep] w fun e w' => e = .returned (.bool true) ∧ Below w.heap.size w w' := by
  have k1 := and_m8 at0
  obtain ⟨y, hy, hy2⟩ : ∃ y : Nat, at0 % 256 = (y : Int) ∧ y < 256 := ⟨(at0 % 256).toNat, by omega, by omega⟩
  rw [hy] at k1
  obtain ⟨m, hmm, hm⟩ : ∃ m : Nat, (y : Int) % 96 = (m : Int) ∧ m < 96 := ⟨y % 96, by omega, by omega⟩
  have t1 : dWrite none (Dk.new 1) ((0 : Nat) : Int) (full a) = (0, none, ⟨[blk0], [(0, full a)], false⟩) := dWrite_ok (by decide) (full_len a) rfl
  have Hy := Lib.hid hy
  have T1 := Lib.hid t1
  clear hy t1
  cases behind with
  | false =>
    cases keep with
    | false =>
      go_enter Try.func10, Try.ntmps10
      go_wp2_with fail
      refine (new_calls 1 none _ (St.init w)).mono ?_
      rintro e w1 ⟨p, rfl, s⟩
      obtain ⟨db, _, _, _, _, rfl, -⟩ := dk_open s
      have S := Lib.hid s
      clear s
      go_wp2_with fail
      refine (full_calls a _ S.out).mono ?_
      rintro e w2 ⟨g, rfl, s⟩
      clear S
      have S := Lib.hid (s.eq (sep_left_comm _ _ _))
      clear s
      go_wp2_with fail
      refine (write0 (Dk.new 1) 0 (full a) _ _ 96 96 w2 (by simp [Dk.new]) (reads_right _ reads_row) (by omega) S.out).mono ?_
      rw [show dWrite none (Dk.new 1) 0 (full a) = (0, none, ⟨[blk0], [(0, full a)], false⟩) from T1.out]
      rintro e w3 ⟨rfl, s⟩
      clear S
      have S := Lib.hid s
      clear s
      go_wp2_with fail
      refine (sync0 ⟨[blk0], [(0, full a)], false⟩ _ w3 S.out).mono ?_
      rw [show dSync none ⟨[blk0], [(0, full a)], false⟩ = (0, ⟨[full a], [], false⟩) from rfl]
      rintro e w4 ⟨rfl, s⟩
      clear S
      have S := Lib.hid s
      clear s
      go_wp2_with fail
      refine (rot_calls ⟨[full a], [], false⟩ _ _ 0 m x _ S.out).mono ?_
      rw [rot_lasts _ m x hm]
      rintro e w5 ⟨rfl, s⟩
      clear S
      have S := Lib.hid s
      clear s
      go_wp2_with fail
      refine (full_calls b _ S.out).mono ?_
      rintro e w6 ⟨g2, rfl, s⟩
      clear S
      have S := Lib.hid (s.eq (sep_left_comm _ _ _))
      clear s
      go_wp2_with fail
      refine (write0 ⟨[turn (full a) m x], [], false⟩ 0 (full b) _ _ 96 96 w6 (by simp) (reads_right _ reads_row) (by omega) S.out).mono ?_
      rw [show dWrite none ⟨[turn (full a) m x], [], false⟩ 0 (full b) = (0, none, ⟨[turn (full a) m x], [(0, full b)], false⟩) from dWrite_ok (i := 0) (by simp) (full_len b) rfl]
      rintro e w7 ⟨rfl, s⟩
      clear S
      have S := Lib.hid s
      clear s
      go_wp2_with fail
      refine (crash_calls ⟨[turn (full a) m x], [(0, full b)], false⟩ _ _ 0 0 (by omega) (by omega) _ S.out).mono ?_
      rw [show dCrash ⟨[turn (full a) m x], [(0, full b)], false⟩ 0 0 = ⟨[turn (full a) m x], [], false⟩ from rfl]
      rintro e w8 ⟨rfl, s⟩
      clear S
      have S := Lib.hid s
      clear s
      go_wp2_with fail
      refine (full_calls a _ S.out).mono ?_
      rintro e w9 ⟨g3, rfl, s⟩
      clear S
      have S := Lib.hid s
      clear s
      have hmf : m < (full a).length := by rw [full_len]; exact hm
      obtain ⟨q1, q2, q3, q4, q5, hcell, hfr, q6, hset⟩ := S.out.rowB'
      clear q1 q2 q3 q4 q5 q6
      have c0 := hcell m hmf
      have f0 := hfr m
      have hxr := bits_xor_u8 (full a)[m] x
      have hst := hset m ((full a)[m] ^^^ x) hmf
      have et : (full a).set m ((full a)[m] ^^^ x) = turn (full a) m x := by unfold turn; simp [List.getD_eq_getElem?_getD, hmf]
      rw [et] at hst
      have HST := Lib.hid hst
      clear hcell hfr hset hst et S
      generalize (full a)[m] = fm at *
      go_wp2_with fail
      have hst := HST.out
      rw [show bv (fm ^^^ x) = .int .u8 ((fm.toNat ^^^ x.toNat : Nat) : Int) from by show Value.int .u8 _ = _; rw [UInt8.toNat_xor]] at hst
      generalize World.setCell _ _ _ = w10 at hst ⊢
      have S := Lib.hid hst
      clear HST c0 f0 hxr hst
      have hW : (turn (full a) m x).length = 96 := by rw [turn_len, full_len]
      have s := S.out
      have S2 := Lib.hid (s.eq (sep_left_comm _ _ _))
      have hbw := s.bs
      clear s S
      generalize turn (full a) m x = W at *
      have HWL := Lib.hid hW
      clear hW hbw
      refine (read_calls ⟨[W], [], false⟩ _ _ 0 _ S2.out).mono ?_
      rintro e w11 ⟨a11, c11, he, s⟩
      rw [show dRead ⟨[W], [], false⟩ 0 = W from rfl, HWL.out] at he s
      obtain rfl : e = .returned (.tuple #[.slice a11 96 c11, .int .i64 0]) := he
      have hcv := run_str (P := Try.prog) Try.underlying25 Try.underlying5 Try.underlying9 s.bs
      have s2 := s.right
      have hcw := run_str (P := Try.prog) Try.underlying25 Try.underlying5 Try.underlying9 (s2.eq (sep_left_comm _ _ _)).bs
      clear S2
      have S2 := Lib.hid s2
      clear s s2
      go_wp2_with fail
      clear hcv hcw
      refine (rot_calls ⟨[W], [], false⟩ _ _ 0 m x _ S2.out).mono ?_
      rw [rot_lasts _ m x hm]
      rintro e w12 ⟨rfl, s⟩
      clear S2
      have S2 := Lib.hid s
      clear s
      go_wp2_with fail
      refine (rot_calls ⟨[turn W m x], [], false⟩ _ _ 0 m x _ S2.out).mono ?_
      rw [rot_lasts _ m x hm, turn_turn W m x (by rw [HWL.out]; exact hm)]
      rintro e w13 ⟨rfl, s⟩
      clear S2
      have S2 := Lib.hid s
      clear s
      go_wp2_with fail
      refine (read_calls ⟨[W], [], false⟩ _ _ 0 _ S2.out).mono ?_
      rintro e w14 ⟨a14, c14, he, s⟩
      rw [show dRead ⟨[W], [], false⟩ 0 = W from rfl, HWL.out] at he s
      obtain rfl : e = .returned (.tuple #[.slice a14 96 c14, .int .i64 0]) := he
      have hcv := run_str (P := Try.prog) Try.underlying25 Try.underlying5 Try.underlying9 s.bs
      have s2 := s.right
      have hcw := run_str (P := Try.prog) Try.underlying25 Try.underlying5 Try.underlying9 (s2.eq (sep_left_comm _ _ _)).bs
      clear S2
      have S2 := Lib.hid s2
      clear s s2
      go_wp2_with fail
      clear hcv hcw
      refine (blank_calls _).mono ?_
      rintro e w15 ⟨rfl, h15⟩
      have S3 := Lib.hid (S2.out.keep h15)
      have hbl : (⟨blk0.toArray⟩ : ByteArray).size = 96 := by simp [ByteArray.size, blk0_len]
      clear h15 S2
      go_wp2_with fail
      refine (awake_calls _).mono ?_
      rintro e w16 ⟨rfl, h16⟩
      have HB := Lib.hid (S3.out.keep h16).below
      clear h16 S3
      go_wp2_with fail
      go_ret
      exact ⟨rfl, HB.out⟩
    | true =>
      go_enter Try.func10, Try.ntmps10
      go_wp2_with fail
      refine (new_calls 1 none _ (St.init w)).mono ?_
      rintro e w1 ⟨p, rfl, s⟩
      obtain ⟨db, _, _, _, _, rfl, -⟩ := dk_open s
      have S := Lib.hid s
      clear s
      go_wp2_with fail
      refine (full_calls a _ S.out).mono ?_
      rintro e w2 ⟨g, rfl, s⟩
      clear S
      have S := Lib.hid (s.eq (sep_left_comm _ _ _))
      clear s
      go_wp2_with fail
      refine (write0 (Dk.new 1) 0 (full a) _ _ 96 96 w2 (by simp [Dk.new]) (reads_right _ reads_row) (by omega) S.out).mono ?_
      rw [show dWrite none (Dk.new 1) 0 (full a) = (0, none, ⟨[blk0], [(0, full a)], false⟩) from T1.out]
      rintro e w3 ⟨rfl, s⟩
      clear S
      have S := Lib.hid s
      clear s
      go_wp2_with fail
      refine (sync0 ⟨[blk0], [(0, full a)], false⟩ _ w3 S.out).mono ?_
      rw [show dSync none ⟨[blk0], [(0, full a)], false⟩ = (0, ⟨[full a], [], false⟩) from rfl]
      rintro e w4 ⟨rfl, s⟩
      clear S
      have S := Lib.hid s
      clear s
      go_wp2_with fail
      refine (rot_calls ⟨[full a], [], false⟩ _ _ 0 m x _ S.out).mono ?_
      rw [rot_lasts _ m x hm]
      rintro e w5 ⟨rfl, s⟩
      clear S
      have S := Lib.hid s
      clear s
      go_wp2_with fail
      refine (full_calls b _ S.out).mono ?_
      rintro e w6 ⟨g2, rfl, s⟩
      clear S
      have S := Lib.hid (s.eq (sep_left_comm _ _ _))
      clear s
      go_wp2_with fail
      refine (write0 ⟨[turn (full a) m x], [], false⟩ 0 (full b) _ _ 96 96 w6 (by simp) (reads_right _ reads_row) (by omega) S.out).mono ?_
      rw [show dWrite none ⟨[turn (full a) m x], [], false⟩ 0 (full b) = (0, none, ⟨[turn (full a) m x], [(0, full b)], false⟩) from dWrite_ok (i := 0) (by simp) (full_len b) rfl]
      rintro e w7 ⟨rfl, s⟩
      clear S
      have S := Lib.hid s
      clear s
      go_wp2_with fail
      refine (crash_calls ⟨[turn (full a) m x], [(0, full b)], false⟩ _ _ 1 0 (by omega) (by omega) _ S.out).mono ?_
      rw [show dCrash ⟨[turn (full a) m x], [(0, full b)], false⟩ 1 0 = ⟨[full b], [], false⟩ from rfl]
      rintro e w8 ⟨rfl, s⟩
      clear S
      have S := Lib.hid s
      clear s
      go_wp2_with fail
      refine (full_calls a _ S.out).mono ?_
      rintro e w9 ⟨g3, rfl, s⟩
      clear S
      have S := Lib.hid s
      clear s
      go_wp2_with fail
      refine (full_calls b _ S.out).mono ?_
      rintro e w10 ⟨g4, rfl, s⟩
      clear S
      have S := Lib.hid ((s.eq (sep_left_comm _ _ _)).right.eq (sep_left_comm _ _ _))
      clear s
      have S := Lib.hid (S.out.eq (sep_left_comm _ _ _))
      go_wp2_with fail
      have hW : (full b).length = 96 := full_len b
      have s := S.out
      have S2 := Lib.hid (s.eq (sep_left_comm _ _ _))
      have hbw := s.bs
      clear s S
      generalize full b = W at *
      have HWL := Lib.hid hW
      clear hW hbw
      refine (read_calls ⟨[W], [], false⟩ _ _ 0 _ S2.out).mono ?_
      rintro e w11 ⟨a11, c11, he, s⟩
      rw [show dRead ⟨[W], [], false⟩ 0 = W from rfl, HWL.out] at he s
      obtain rfl : e = .returned (.tuple #[.slice a11 96 c11, .int .i64 0]) := he
      have hcv := run_str (P := Try.prog) Try.underlying25 Try.underlying5 Try.underlying9 s.bs
      have s2 := s.right
      have hcw := run_str (P := Try.prog) Try.underlying25 Try.underlying5 Try.underlying9 (s2.eq (sep_left_comm _ _ _)).bs
      clear S2
      have S2 := Lib.hid s2
      clear s s2
      go_wp2_with fail
      clear hcv hcw
      refine (rot_calls ⟨[W], [], false⟩ _ _ 0 m x _ S2.out).mono ?_
      rw [rot_lasts _ m x hm]
      rintro e w12 ⟨rfl, s⟩
      clear S2
      have S2 := Lib.hid s
      clear s
      go_wp2_with fail
      refine (rot_calls ⟨[turn W m x], [], false⟩ _ _ 0 m x _ S2.out).mono ?_
      rw [rot_lasts _ m x hm, turn_turn W m x (by rw [HWL.out]; exact hm)]
      rintro e w13 ⟨rfl, s⟩
      clear S2
      have S2 := Lib.hid s
      clear s
      go_wp2_with fail
      refine (read_calls ⟨[W], [], false⟩ _ _ 0 _ S2.out).mono ?_
      rintro e w14 ⟨a14, c14, he, s⟩
      rw [show dRead ⟨[W], [], false⟩ 0 = W from rfl, HWL.out] at he s
      obtain rfl : e = .returned (.tuple #[.slice a14 96 c14, .int .i64 0]) := he
      have hcv := run_str (P := Try.prog) Try.underlying25 Try.underlying5 Try.underlying9 s.bs
      have s2 := s.right
      have hcw := run_str (P := Try.prog) Try.underlying25 Try.underlying5 Try.underlying9 (s2.eq (sep_left_comm _ _ _)).bs
      clear S2
      have S2 := Lib.hid s2
      clear s s2
      go_wp2_with fail
      clear hcv hcw
      refine (blank_calls _).mono ?_
      rintro e w15 ⟨rfl, h15⟩
      have S3 := Lib.hid (S2.out.keep h15)
      have hbl : (⟨blk0.toArray⟩ : ByteArray).size = 96 := by simp [ByteArray.size, blk0_len]
      clear h15 S2
      go_wp2_with fail
      refine (awake_calls _).mono ?_
      rintro e w16 ⟨rfl, h16⟩
      have HB := Lib.hid (S3.out.keep h16).below
      clear h16 S3
      go_wp2_with fail
      go_ret
      exact ⟨rfl, HB.out⟩
  | true =>
    cases keep with
    | false =>
      go_enter Try.func10, Try.ntmps10
      go_wp2_with fail
      refine (new_calls 1 none _ (St.init w)).mono ?_
      rintro e w1 ⟨p, rfl, s⟩
      obtain ⟨db, _, _, _, _, rfl, -⟩ := dk_open s
      have S := Lib.hid s
      clear s
      go_wp2_with fail
      refine (full_calls a _ S.out).mono ?_
      rintro e w2 ⟨g, rfl, s⟩
      clear S
      have S := Lib.hid (s.eq (sep_left_comm _ _ _))
      clear s
      go_wp2_with fail
      refine (write0 (Dk.new 1) 0 (full a) _ _ 96 96 w2 (by simp [Dk.new]) (reads_right _ reads_row) (by omega) S.out).mono ?_
      rw [show dWrite none (Dk.new 1) 0 (full a) = (0, none, ⟨[blk0], [(0, full a)], false⟩) from T1.out]
      rintro e w3 ⟨rfl, s⟩
      clear S
      have S := Lib.hid s
      clear s
      go_wp2_with fail
      refine (sync0 ⟨[blk0], [(0, full a)], false⟩ _ w3 S.out).mono ?_
      rw [show dSync none ⟨[blk0], [(0, full a)], false⟩ = (0, ⟨[full a], [], false⟩) from rfl]
      rintro e w4 ⟨rfl, s⟩
      clear S
      have S := Lib.hid s
      clear s
      go_wp2_with fail
      refine (full_calls b _ S.out).mono ?_
      rintro e w6 ⟨g2, rfl, s⟩
      clear S
      have S := Lib.hid (s.eq (sep_left_comm _ _ _))
      clear s
      go_wp2_with fail
      refine (write0 ⟨[full a], [], false⟩ 0 (full b) _ _ 96 96 w6 (by simp) (reads_right _ reads_row) (by omega) S.out).mono ?_
      rw [show dWrite none ⟨[full a], [], false⟩ 0 (full b) = (0, none, ⟨[full a], [(0, full b)], false⟩) from dWrite_ok (i := 0) (by simp) (full_len b) rfl]
      rintro e w7 ⟨rfl, s⟩
      clear S
      have S := Lib.hid s
      clear s
      go_wp2_with fail
      refine (rot_calls ⟨[full a], [(0, full b)], false⟩ _ _ 0 m x _ S.out).mono ?_
      rw [rot_pend _ _ m x hm]
      rintro e w5 ⟨rfl, s⟩
      clear S
      have S := Lib.hid s
      clear s
      go_wp2_with fail
      refine (crash_calls ⟨[full a], [(0, turn (full b) m x)], false⟩ _ _ 0 0 (by omega) (by omega) _ S.out).mono ?_
      rw [show dCrash ⟨[full a], [(0, turn (full b) m x)], false⟩ 0 0 = ⟨[full a], [], false⟩ from rfl]
      rintro e w8 ⟨rfl, s⟩
      clear S
      have S := Lib.hid s
      clear s
      go_wp2_with fail
      refine (full_calls a _ S.out).mono ?_
      rintro e w9 ⟨g3, rfl, s⟩
      clear S
      have S := Lib.hid s
      clear s
      go_wp2_with fail
      have hW : (full a).length = 96 := full_len a
      have s := S.out
      have S2 := Lib.hid (s.eq (sep_left_comm _ _ _))
      have hbw := s.bs
      clear s S
      generalize full a = W at *
      have HWL := Lib.hid hW
      clear hW hbw
      refine (read_calls ⟨[W], [], false⟩ _ _ 0 _ S2.out).mono ?_
      rintro e w11 ⟨a11, c11, he, s⟩
      rw [show dRead ⟨[W], [], false⟩ 0 = W from rfl, HWL.out] at he s
      obtain rfl : e = .returned (.tuple #[.slice a11 96 c11, .int .i64 0]) := he
      have hcv := run_str (P := Try.prog) Try.underlying25 Try.underlying5 Try.underlying9 s.bs
      have s2 := s.right
      have hcw := run_str (P := Try.prog) Try.underlying25 Try.underlying5 Try.underlying9 (s2.eq (sep_left_comm _ _ _)).bs
      clear S2
      have S2 := Lib.hid s2
      clear s s2
      go_wp2_with fail
      clear hcv hcw
      refine (rot_calls ⟨[W], [], false⟩ _ _ 0 m x _ S2.out).mono ?_
      rw [rot_lasts _ m x hm]
      rintro e w12 ⟨rfl, s⟩
      clear S2
      have S2 := Lib.hid s
      clear s
      go_wp2_with fail
      refine (rot_calls ⟨[turn W m x], [], false⟩ _ _ 0 m x _ S2.out).mono ?_
      rw [rot_lasts _ m x hm, turn_turn W m x (by rw [HWL.out]; exact hm)]
      rintro e w13 ⟨rfl, s⟩
      clear S2
      have S2 := Lib.hid s
      clear s
      go_wp2_with fail
      refine (read_calls ⟨[W], [], false⟩ _ _ 0 _ S2.out).mono ?_
      rintro e w14 ⟨a14, c14, he, s⟩
      rw [show dRead ⟨[W], [], false⟩ 0 = W from rfl, HWL.out] at he s
      obtain rfl : e = .returned (.tuple #[.slice a14 96 c14, .int .i64 0]) := he
      have hcv := run_str (P := Try.prog) Try.underlying25 Try.underlying5 Try.underlying9 s.bs
      have s2 := s.right
      have hcw := run_str (P := Try.prog) Try.underlying25 Try.underlying5 Try.underlying9 (s2.eq (sep_left_comm _ _ _)).bs
      clear S2
      have S2 := Lib.hid s2
      clear s s2
      go_wp2_with fail
      clear hcv hcw
      refine (blank_calls _).mono ?_
      rintro e w15 ⟨rfl, h15⟩
      have S3 := Lib.hid (S2.out.keep h15)
      have hbl : (⟨blk0.toArray⟩ : ByteArray).size = 96 := by simp [ByteArray.size, blk0_len]
      clear h15 S2
      go_wp2_with fail
      refine (awake_calls _).mono ?_
      rintro e w16 ⟨rfl, h16⟩
      have HB := Lib.hid (S3.out.keep h16).below
      clear h16 S3
      go_wp2_with fail
      go_ret
      exact ⟨rfl, HB.out⟩
    | true =>
      go_enter Try.func10, Try.ntmps10
      go_wp2_with fail
      refine (new_calls 1 none _ (St.init w)).mono ?_
      rintro e w1 ⟨p, rfl, s⟩
      obtain ⟨db, _, _, _, _, rfl, -⟩ := dk_open s
      have S := Lib.hid s
      clear s
      go_wp2_with fail
      refine (full_calls a _ S.out).mono ?_
      rintro e w2 ⟨g, rfl, s⟩
      clear S
      have S := Lib.hid (s.eq (sep_left_comm _ _ _))
      clear s
      go_wp2_with fail
      refine (write0 (Dk.new 1) 0 (full a) _ _ 96 96 w2 (by simp [Dk.new]) (reads_right _ reads_row) (by omega) S.out).mono ?_
      rw [show dWrite none (Dk.new 1) 0 (full a) = (0, none, ⟨[blk0], [(0, full a)], false⟩) from T1.out]
      rintro e w3 ⟨rfl, s⟩
      clear S
      have S := Lib.hid s
      clear s
      go_wp2_with fail
      refine (sync0 ⟨[blk0], [(0, full a)], false⟩ _ w3 S.out).mono ?_
      rw [show dSync none ⟨[blk0], [(0, full a)], false⟩ = (0, ⟨[full a], [], false⟩) from rfl]
      rintro e w4 ⟨rfl, s⟩
      clear S
      have S := Lib.hid s
      clear s
      go_wp2_with fail
      refine (full_calls b _ S.out).mono ?_
      rintro e w6 ⟨g2, rfl, s⟩
      clear S
      have S := Lib.hid (s.eq (sep_left_comm _ _ _))
      clear s
      go_wp2_with fail
      refine (write0 ⟨[full a], [], false⟩ 0 (full b) _ _ 96 96 w6 (by simp) (reads_right _ reads_row) (by omega) S.out).mono ?_
      rw [show dWrite none ⟨[full a], [], false⟩ 0 (full b) = (0, none, ⟨[full a], [(0, full b)], false⟩) from dWrite_ok (i := 0) (by simp) (full_len b) rfl]
      rintro e w7 ⟨rfl, s⟩
      clear S
      have S := Lib.hid s
      clear s
      go_wp2_with fail
      refine (rot_calls ⟨[full a], [(0, full b)], false⟩ _ _ 0 m x _ S.out).mono ?_
      rw [rot_pend _ _ m x hm]
      rintro e w5 ⟨rfl, s⟩
      clear S
      have S := Lib.hid s
      clear s
      go_wp2_with fail
      refine (crash_calls ⟨[full a], [(0, turn (full b) m x)], false⟩ _ _ 1 0 (by omega) (by omega) _ S.out).mono ?_
      rw [show dCrash ⟨[full a], [(0, turn (full b) m x)], false⟩ 1 0 = ⟨[turn (full b) m x], [], false⟩ from rfl]
      rintro e w8 ⟨rfl, s⟩
      clear S
      have S := Lib.hid s
      clear s
      go_wp2_with fail
      refine (full_calls a _ S.out).mono ?_
      rintro e w9 ⟨g3, rfl, s⟩
      clear S
      have S := Lib.hid s
      clear s
      go_wp2_with fail
      refine (full_calls b _ S.out).mono ?_
      rintro e w10 ⟨g4, rfl, s⟩
      clear S
      have S := Lib.hid ((s.eq (sep_left_comm _ _ _)).right.eq (sep_left_comm _ _ _))
      clear s
      have S := Lib.hid (S.out.eq (sep_left_comm _ _ _))
      have hmf : m < (full b).length := by rw [full_len]; exact hm
      obtain ⟨q1, q2, q3, q4, q5, hcell, hfr, q6, hset⟩ := S.out.rowB'
      clear q1 q2 q3 q4 q5 q6
      have c0 := hcell m hmf
      have f0 := hfr m
      have hxr := bits_xor_u8 (full b)[m] x
      have hst := hset m ((full b)[m] ^^^ x) hmf
      have et : (full b).set m ((full b)[m] ^^^ x) = turn (full b) m x := by unfold turn; simp [List.getD_eq_getElem?_getD, hmf]
      rw [et] at hst
      have HST := Lib.hid hst
      clear hcell hfr hset hst et S
      generalize (full b)[m] = fm at *
      go_wp2_with fail
      have hst := HST.out
      rw [show bv (fm ^^^ x) = .int .u8 ((fm.toNat ^^^ x.toNat : Nat) : Int) from by show Value.int .u8 _ = _; rw [UInt8.toNat_xor]] at hst
      generalize World.setCell _ _ _ = w10 at hst ⊢
      have S := Lib.hid hst
      clear HST c0 f0 hxr hst
      have hW : (turn (full b) m x).length = 96 := by rw [turn_len, full_len]
      have s := S.out
      have S2 := Lib.hid (s.eq (sep_left_comm _ _ _))
      have hbw := s.bs
      clear s S
      generalize turn (full b) m x = W at *
      have HWL := Lib.hid hW
      clear hW hbw
      refine (read_calls ⟨[W], [], false⟩ _ _ 0 _ S2.out).mono ?_
      rintro e w11 ⟨a11, c11, he, s⟩
      rw [show dRead ⟨[W], [], false⟩ 0 = W from rfl, HWL.out] at he s
      obtain rfl : e = .returned (.tuple #[.slice a11 96 c11, .int .i64 0]) := he
      have hcv := run_str (P := Try.prog) Try.underlying25 Try.underlying5 Try.underlying9 s.bs
      have s2 := s.right
      have hcw := run_str (P := Try.prog) Try.underlying25 Try.underlying5 Try.underlying9 (s2.eq (sep_left_comm _ _ _)).bs
      clear S2
      have S2 := Lib.hid s2
      clear s s2
      go_wp2_with fail
      clear hcv hcw
      refine (rot_calls ⟨[W], [], false⟩ _ _ 0 m x _ S2.out).mono ?_
      rw [rot_lasts _ m x hm]
      rintro e w12 ⟨rfl, s⟩
      clear S2
      have S2 := Lib.hid s
      clear s
      go_wp2_with fail
      refine (rot_calls ⟨[turn W m x], [], false⟩ _ _ 0 m x _ S2.out).mono ?_
      rw [rot_lasts _ m x hm, turn_turn W m x (by rw [HWL.out]; exact hm)]
      rintro e w13 ⟨rfl, s⟩
      clear S2
      have S2 := Lib.hid s
      clear s
      go_wp2_with fail
      refine (read_calls ⟨[W], [], false⟩ _ _ 0 _ S2.out).mono ?_
      rintro e w14 ⟨a14, c14, he, s⟩
      rw [show dRead ⟨[W], [], false⟩ 0 = W from rfl, HWL.out] at he s
      obtain rfl : e = .returned (.tuple #[.slice a14 96 c14, .int .i64 0]) := he
      have hcv := run_str (P := Try.prog) Try.underlying25 Try.underlying5 Try.underlying9 s.bs
      have s2 := s.right
      have hcw := run_str (P := Try.prog) Try.underlying25 Try.underlying5 Try.underlying9 (s2.eq (sep_left_comm _ _ _)).bs
      clear S2
      have S2 := Lib.hid s2
      clear s s2
      go_wp2_with fail
      clear hcv hcw
      refine (blank_calls _).mono ?_
      rintro e w15 ⟨rfl, h15⟩
      have S3 := Lib.hid (S2.out.keep h15)
      have hbl : (⟨blk0.toArray⟩ : ByteArray).size = 96 := by simp [ByteArray.size, blk0_len]
      clear h15 S2
      go_wp2_with fail
      refine (awake_calls _).mono ?_
      rintro e w16 ⟨rfl, h16⟩
      have HB := Lib.hid (S3.out.keep h16).below
      clear h16 S3
      go_wp2_with fail
      go_ret
      exact ⟨rfl, HB.out⟩
end Go.Proofs.Yteikpbangjpilaa.DskL
