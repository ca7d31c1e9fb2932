/- The tape's law file: awake; TapeCuts, walked. -/
import Derived.Test.YteikpbangjpilaaTapW
namespace Go.Proofs.Yteikpbangjpilaa.TapL
open Go Go.RowKit Go.Proofs.Yteikpbangjpilaa Go.Proofs.Yteikpbangjpilaa.Sp Go.Proofs.Yteikpbangjpilaa.Reg Go.Proofs.Yteikpbangjpilaa.SlW Go.Proofs.Yteikpbangjpilaa.Fus Go.Proofs.Yteikpbangjpilaa.TapW

theorem reads_left {B : Nat} {w0 : World} {R : HP} {v : Value} {bs : List UInt8} (X : HP) (h : Reads B w0 R v bs) : Reads B w0 (X * R) v bs := fun _ H s => h _ (H * X) (s.eq (sep_assoc _ _ _).symm)
theorem reads_right {B : Nat} {w0 : World} {R : HP} {v : Value} {bs : List UInt8} (X : HP) (h : Reads B w0 R v bs) : Reads B w0 (R * X) v bs := fun _ H s => h _ (H * X) (s.eq (by ac_rfl))
theorem reads_row {B : Nat} {w0 : World} {e : TypeId} {v : Value} {n : Nat} {bs : List UInt8} : Reads B w0 (row e 1 v n (bvs bs)) v bs := fun _ _ s => (s.eq (sep_comm _ _)).bs
theorem reads_lit {B : Nat} {w0 : World} {t : TypeId} {f : Nat × Nat} {g n : Nat} {C : Array Value} {bs : List UInt8} (hC : C = (bvs bs).toArray) (hn : n = bs.length) (h : bs.length ≤ maxLen) :
    Reads B w0 (pts g (.cells C t f)) (.slice (some ⟨g, 0, none⟩) n n) bs := fun _ _ s => by
  subst hn
  subst hC
  refine ⟨_, _, rfl, Nat.le_refl _, h, (fun e => by cases e), ?_⟩
  have q := (s.eq (sep_comm _ _)).rd 0 bs.length
  have e : (((bvs bs).toArray.toList.drop 0).take bs.length) = bvs bs := by simp [List.take_of_length_le]
  rw [e] at q
  exact q

theorem fz_nil {B : Nat} {w0 w : World} {R : HP} (s : St B w0 w R) : St B w0 w (fz (.pointer none) none * R) := by
  show St B w0 w (pur (Value.pointer none = .pointer none) * R)
  rw [St.pu]
  exact ⟨rfl, s⟩
theorem fz_nil2 {B : Nat} {w0 w : World} {X R : HP} (s : St B w0 w (X * R)) : St B w0 w (X * (fz (.pointer none) none * R)) := (fz_nil s).eq (by ac_rfl)
theorem fz_nil3 {B : Nat} {w0 w : World} {X R : HP} (s : St B w0 w (X * (fz (.pointer none) none * R))) : St B w0 w (X * R) := (fz_none (s.eq (Q := fz (.pointer none) none * (X * R)) (by ac_rfl))).2
section
variable {B : Nat} {w0 : World} {R : HP}
theorem append0 (T : Tp) (bs : List UInt8) (p : Value) (a : Option Addr) (n c : Nat) (w : World) (hb : Reads B w0 R (.slice a n c) bs) (hn : n ≤ 4611686018427387904) (s : St B w0 w (tp p (.pointer none) T * R)) :
    Calls Try.prog 15 #[p, .slice a n c] w (RetS B w0 (tp p (.pointer none) (tApp none T bs).2.2 * R) (.int .i64 (tApp none T bs).1)) := by
  refine (append_calls none T bs p none a n c w hb hn (fz_nil2 s)).mono ?_
  rintro e w' ⟨rfl, s'⟩
  have h : (tApp none T bs).2.1 = none := by unfold tApp; repeat (first | split | rfl)
  rw [h] at s'
  exact ⟨rfl, fz_nil3 s'⟩
theorem cut0 (T : Tp) (n : Int) (p : Value) (w : World) (s : St B w0 w (tp p (.pointer none) T * R)) :
    Calls Try.prog 20 #[p, .int .i64 n] w (RetS B w0 (tp p (.pointer none) (tCut none T n).2.2 * R) (.int .i64 (tCut none T n).1)) := by
  refine (cut_calls none T n p none w (fz_nil2 s)).mono ?_
  rintro e w' ⟨rfl, s'⟩
  have h : (tCut none T n).2.1 = none := by unfold tCut; repeat (first | split | rfl)
  rw [h] at s'
  exact ⟨rfl, fz_nil3 s'⟩
theorem sync0 (T : Tp) (p : Value) (w : World) (s : St B w0 w (tp p (.pointer none) T * R)) :
    Calls Try.prog 16 #[p] w (RetS B w0 (tp p (.pointer none) (tSync none T).2 * R) (.int .i64 (tSync none T).1)) := by
  refine (sync_calls none T p none w (fz_nil2 s)).mono ?_
  rintro e w' ⟨rfl, s'⟩
  exact ⟨rfl, fz_nil3 s'⟩
end
set_option maxHeartbeats 1000000 in
theorem awake_calls (w : World) : Calls Try.prog 14 #[] w fun e w' => e = .returned (.bool true) ∧ Add w w' := by
  go_enter Try.func14, Try.ntmps14
  go_wp2_with fail
  refine (new_calls none _ (St.init w)).mono ?_
  rintro e w1 ⟨p, rfl, s1⟩
  obtain ⟨bk, v, rfl, -, -⟩ := tp_open s1
  have S1 := Lib.hid s1
  clear s1
  go_wp2_with fail
  refine (append0 Tp.new [1, 2, 3] (.pointer (some ⟨bk, 0, none⟩)) (some ⟨w1.heap.size, 0, none⟩) 3 3 _ (reads_left emp (reads_lit rfl rfl (by simp [maxLen]))) (by omega) (R := emp * pts w1.heap.size (.cells #[.int .u8 1, .int .u8 2, .int .u8 3] 5)) ((S1.out.alloc _).eq (by ac_rfl))).mono ?_
  rintro e w2 ⟨he, s2⟩
  obtain rfl : e = .returned (.int .i64 0) := he
  have s2 : St _ _ _ (tp (.pointer (some ⟨bk, 0, none⟩)) (.pointer none) ⟨[1, 2, 3], 3, false⟩ * _) := s2
  have S2 := Lib.hid s2
  clear s2
  go_wp2_with fail
  refine (crash_calls _ 2 _ _ w2 (by omega) S2.out).mono ?_
  rintro e w3 ⟨rfl, s3⟩
  have s3 : St _ _ _ (tp (.pointer (some ⟨bk, 0, none⟩)) (.pointer none) ⟨[1, 2], 0, false⟩ * _) := s3
  have S3 := Lib.hid s3
  clear s3
  clear S2 S1
  go_wp2_with fail
  refine (bytes_calls _ _ _ w3 S3.out).mono ?_
  rintro e w4 ⟨a4, c4, he, s4⟩
  obtain rfl : e = .returned (.tuple #[.slice a4 2 c4, .int .i64 0]) := he
  have s4 : St _ _ _ (row 5 1 (.slice a4 2 c4) 2 (bvs [1, 2]) * (tp (.pointer (some ⟨bk, 0, none⟩)) (.pointer none) ⟨[1, 2], 0, false⟩ * _)) := s4
  have hcv := run_str (P := Try.prog) Try.underlying25 Try.underlying5 Try.underlying9 s4.bs
  have s5 := s4.right
  have S5 := Lib.hid s5
  clear s5
  clear S3 s4 s2 s3
  go_wp2_with fail
  refine (loose_calls _ _ _ w4 S5.out).mono ?_
  rintro e w5 ⟨he, s6⟩
  obtain rfl : e = .returned (.int .i64 0) := he
  have S6 := Lib.hid s6
  clear s6
  clear S5 hcv
  go_wp2_with fail
  refine (live_calls _ _ _ w5 S6.out).mono ?_
  rintro e w6 ⟨he, s7⟩
  obtain rfl : e = .returned (.bool true) := he
  have S7 := Lib.hid s7
  clear s7
  clear S6
  go_wp2_with fail
  go_ret
  exact ⟨rfl, S7.out.below⟩
end Go.Proofs.Yteikpbangjpilaa.TapL
