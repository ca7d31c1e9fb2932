/- Package rec, walked: number; what Encode's regions do. No condition. -/
import Derived.Test.YtnfkcmcchkcflaaRcW2
import Derived.Test.YtnfkcmcchkcflaaRey
import Derived.Lib.AppendStr
set_option linter.unusedSimpArgs false
set_option linter.unusedVariables false
namespace Go.Proofs.Ytnfkcmcchkcflaa.RcW
open Go Go.RowKit Go.Proofs.Ytnfkcmcchkcflaa Go.Proofs.Ytnfkcmcchkcflaa.Sp Go.Proofs.Ytnfkcmcchkcflaa.Reg Go.Proofs.Ytnfkcmcchkcflaa.RcM Go.Proofs.Ytnfkcmcchkcflaa.SlW
section
variable {P : Program} {B : Nat} {w0 w : World} {R : HP}
theorem strCells_eq (l : List UInt8) : Lib.strCells ⟨l.toArray⟩ = bvs l := rfl
/-- append(s, x...), x a text, on a row of bytes of the call's own that is not nil. -/
theorem run_appendS_st {t u e : TypeId} (T : SlT P t e 1 1 (.int .u8 0)) (hu : P.underlying u = some .string) (ty : TypeId) {v : Value} {b l : List UInt8} (hv : v ≠ .slice none 0 0) (s : St B w0 w (row e 1 v b.length (bvs b) * R)) (h63 : b.length + l.length ≤ 1000000) :
    ∃ a c w', (Builtin.append_ #[t, u] ty #[v, str l]).run P w = .ok (.slice a (b ++ l).length c) w' ∧ St B w0 w' (row e 1 (.slice a (b ++ l).length c) (b ++ l).length (bvs (b ++ l)) * R) := by
  obtain ⟨ht, ⟨i, hi, hz, hsz, hby⟩, hzs, hpos⟩ := T
  have hsl : (⟨l.toArray⟩ : ByteArray).size = l.length := by simp [ByteArray.size]
  have hbv : bvs b ++ bvs l = bvs (b ++ l) := by simp [bvs]
  have hlb : (bvs (b ++ l)).length = b.length + l.length := by simp [bvs]
  obtain ⟨hxs, so⟩ := s.rowOpen
  rcases so with ⟨rfl, _, _⟩ | ⟨g, cap, cur, rfl, hnc, hcm, hcs, htake, sp⟩
  · exact absurd rfl hv
  · rw [Nat.mul_one] at hcs htake
    by_cases hroom : b.length + l.length ≤ cap
    · have hrr := Lib.run_append_room_string (P := P) w t u ty e i ht hu hi hsz g b.length cap cur sp.block ⟨l.toArray⟩ (by rw [hsl]; exact hroom) (by rw [hsl]; omega)
      rw [hsl, strCells_eq] at hrr
      rw [List.length_append]
      refine ⟨_, _, _, hrr, (sp.setRow _).rowMk hroom hcm ?_ ?_⟩
      · rw [Nat.mul_one]
        simp only [List.size_toArray, List.length_append, List.length_take, List.length_drop, Array.length_toList]
        have : (bvs l).length = l.length := by simp [bvs]
        omega
      · rw [htake, Nat.mul_one, hbv, ← hlb]
        exact List.take_left
    · have holds : ∀ j u, (bvs b)[j]? = some u → w.cell? ((⟨g, 0, none⟩ : Addr).add j) = some u := by
        intro j u hj
        rw [Addr.add_lit, sp.cell, ← htake, List.getElem?_take] at *
        split at hj
        · simpa using hj
        · cases hj
      have hge := grownCap_ge w (b.length + l.length) cap e
      have hcm2 : grownCap w (b.length + l.length) cap e ≤ maxLen := grownCap_le_maxLen w (b.length + l.length) cap e (by unfold maxLen; omega)
      have hrr := Lib.run_append_grow_string (P := P) w t u ty e i (.int .u8 0) ht hu hi hz ⟨g, 0, none⟩ b.length cap (bvs b) (by rw [hsz]; exact hxs) holds ⟨l.toArray⟩ (by rw [hsl]; omega) (by rw [hsl]; omega) (by rw [hsl, hby, Nat.mul_one]; have := growslice_fits (need := b.length + l.length) (old := cap) (bytes := 1) (by omega) (by omega); omega)
      rw [hsl, strCells_eq] at hrr
      rw [List.length_append]
      refine ⟨_, _, _, hrr, (sp.right.drew.alloc _).rowMk hge hcm2 ?_ ?_⟩
      · have hz1 : (Value.int IntKind.u8 0).cells.size = 1 := rfl
        have e1 : (bvs b).length = b.length := by simp [bvs]
        have e2 : (bvs l).length = l.length := by simp [bvs]
        simp only [Array.size_append, List.size_toArray, size_zeroCells, hz1, e1, e2]
        omega
      · simp only [Array.toList_append, List.append_assoc]
        rw [← List.append_assoc, hbv, Nat.mul_one, ← hlb]
        exact List.take_left
end
section
variable {B : Nat} {w0 : World} {R : HP}
/-- A row of bytes of the call's own, handed back. -/
def RetNB (B : Nat) (w0 : World) (R : HP) (bs : List UInt8) (e : Ending) (w' : World) : Prop := ∃ g c, e = .returned (.slice (some ⟨g, 0, none⟩) bs.length c) ∧ St B w0 w' (row 5 1 (.slice (some ⟨g, 0, none⟩) bs.length c) bs.length (bvs bs) * R)
theorem b1_val {n : Int} (h0 : 0 ≤ n) : bv (b1 n) = .int .u8 (n % 256) := by
  show Value.int .u8 ((b1 n).toNat : Int) = _
  rw [b1_mod n h0]
theorem lit1 {w : World} {H : HP} (s : St B w0 w H) (x : UInt8) (X : Int) (hX : Value.int .u8 X = bv x) :
    St B w0 (w.alloc (.cells #[.int .u8 X] 5)) H ∧ BS (w.alloc (.cells #[.int .u8 X] 5)) (.slice (some ⟨w.heap.size, 0, none⟩) 1 1) [x] := by
  refine ⟨(s.alloc _).right, ?_⟩
  rw [hX]
  exact BS.lit w [x] 5 (0, 0) (by unfold maxLen; simp)
theorem row_head {w : World} {H : HP} {a : Option Addr} {n c m : Nat} {l : List UInt8} (s : St B w0 w (row 5 1 (.slice a n c) m (bvs l) * H)) (hl : 0 < l.length) : ∃ g, a = some ⟨g, 0, none⟩ := by
  obtain ⟨hx, h⟩ := s.rowOpen
  have hb : (bvs l).length = l.length := by simp [bvs]
  rcases h with ⟨hv, rfl, _⟩ | ⟨g, cap, cur, hv, _⟩
  · omega
  · cases hv; exact ⟨g, rfl⟩
set_option maxRecDepth 100000 in
set_option maxHeartbeats 4000000 in
theorem number_calls (g c : Nat) (l : List UInt8) (n : Int) (h0 : 0 ≤ n) (h1 : n ≤ 2147483647) (hl : l.length ≤ 1000) (w : World) (s : St B w0 w (row 5 1 (.slice (some ⟨g, 0, none⟩) l.length c) l.length (bvs l) * R)) :
    Calls Try.prog 28 #[.slice (some ⟨g, 0, none⟩) l.length c, .int .i64 n] w (RetNB B w0 R (l ++ be4 n)) := by
  have S := Lib.hid s
  clear s
  go_enter Try.func28, Try.ntmps28
  go_wp2_with fail
  go_loopw [0, 6] (fun v0 i wr => ∃ (k g' c' : Nat), k ≤ 4 ∧ i = .int .i64 k ∧ v0 = .slice (some ⟨g', 0, none⟩) (l ++ (be4 n).take k).length c' ∧ St B w0 wr (row 5 1 (.slice (some ⟨g', 0, none⟩) (l ++ (be4 n).take k).length c') (l ++ (be4 n).take k).length (bvs (l ++ (be4 n).take k)) * R)) (fun _ i _ => 4 - (intOf i).toNat)
  case atStart => exact ⟨0, g, c, Nat.zero_le _, rfl, by simp, by simpa using S.out⟩
  case round =>
    obtain ⟨k, g', c', hk, rfl, rfl, s1⟩ := hrel
    clear S
    obtain rfl | rfl | rfl | rfl | rfl : k = 0 ∨ k = 1 ∨ k = 2 ∨ k = 3 ∨ k = 4 := by omega
    all_goals clear hk
    · skip
      have E := Lib.hid (show (l ++ (be4 n).take 0) ++ [b1 (n / 16777216)] = l ++ (be4 n).take (0 + 1) by rw [List.append_assoc]; rfl)
      have hlk : (l ++ (be4 n).take 0).length = l.length + 0 := by rw [List.length_append]; rfl
      generalize l ++ (be4 n).take 0 = L at *
      obtain ⟨s2, hb2⟩ := lit1 s1 (b1 (n / 16777216)) (n / 16777216) (by rw [b1_val (by omega)]; congr 1; omega)
      have S2 := Lib.hid s2
      have Hb2 := Lib.hid hb2
      have hL1 : L.length + 1 ≤ 140737488355328 := by omega
      have Hlk := Lib.hid hlk
      clear hlk
      clear s1 s2 hb2
      go_wp2_with (at_builtin; go_must (refine wpl_appendB rfl _ _ rfl tB S2.out _ 1 1 Hb2.out rfl rfl hL1 ?_); intro a3 c3 w3 s3; rw [E.out] at s3 ⊢; obtain ⟨g3, rfl⟩ := row_head s3 (by rw [List.length_append]; simp [be4]); have S3 := Lib.hid s3; clear s3)
      go_roundw
      case rel => exact ⟨0 + 1, g3, c3, by omega, rfl, by simp, S3.out⟩
      case measure => simp [intOf]
    · skip
      have E := Lib.hid (show (l ++ (be4 n).take 1) ++ [b1 (n / 65536)] = l ++ (be4 n).take (1 + 1) by rw [List.append_assoc]; rfl)
      have hlk : (l ++ (be4 n).take 1).length = l.length + 1 := by rw [List.length_append]; rfl
      generalize l ++ (be4 n).take 1 = L at *
      obtain ⟨s2, hb2⟩ := lit1 s1 (b1 (n / 65536)) (n / 65536 % 256) ((b1_val (by omega)).symm)
      have S2 := Lib.hid s2
      have Hb2 := Lib.hid hb2
      have hL1 : L.length + 1 ≤ 140737488355328 := by omega
      have Hlk := Lib.hid hlk
      clear hlk
      clear s1 s2 hb2
      go_wp2_with (at_builtin; go_must (refine wpl_appendB rfl _ _ rfl tB S2.out _ 1 1 Hb2.out rfl rfl hL1 ?_); intro a3 c3 w3 s3; rw [E.out] at s3 ⊢; obtain ⟨g3, rfl⟩ := row_head s3 (by rw [List.length_append]; simp [be4]); have S3 := Lib.hid s3; clear s3)
      go_roundw
      case rel => exact ⟨1 + 1, g3, c3, by omega, rfl, by simp, S3.out⟩
      case measure => simp [intOf]
    · skip
      have E := Lib.hid (show (l ++ (be4 n).take 2) ++ [b1 (n / 256)] = l ++ (be4 n).take (2 + 1) by rw [List.append_assoc]; rfl)
      have hlk : (l ++ (be4 n).take 2).length = l.length + 2 := by rw [List.length_append]; rfl
      generalize l ++ (be4 n).take 2 = L at *
      obtain ⟨s2, hb2⟩ := lit1 s1 (b1 (n / 256)) (n / 256 % 256) ((b1_val (by omega)).symm)
      have S2 := Lib.hid s2
      have Hb2 := Lib.hid hb2
      have hL1 : L.length + 1 ≤ 140737488355328 := by omega
      have Hlk := Lib.hid hlk
      clear hlk
      clear s1 s2 hb2
      go_wp2_with (at_builtin; go_must (refine wpl_appendB rfl _ _ rfl tB S2.out _ 1 1 Hb2.out rfl rfl hL1 ?_); intro a3 c3 w3 s3; rw [E.out] at s3 ⊢; obtain ⟨g3, rfl⟩ := row_head s3 (by rw [List.length_append]; simp [be4]); have S3 := Lib.hid s3; clear s3)
      go_roundw
      case rel => exact ⟨2 + 1, g3, c3, by omega, rfl, by simp, S3.out⟩
      case measure => simp [intOf]
    · skip
      have E := Lib.hid (show (l ++ (be4 n).take 3) ++ [b1 n] = l ++ (be4 n).take (3 + 1) by rw [List.append_assoc]; rfl)
      have hlk : (l ++ (be4 n).take 3).length = l.length + 3 := by rw [List.length_append]; rfl
      generalize l ++ (be4 n).take 3 = L at *
      obtain ⟨s2, hb2⟩ := lit1 s1 (b1 n) (n % 256) ((b1_val h0).symm)
      have S2 := Lib.hid s2
      have Hb2 := Lib.hid hb2
      have hL1 : L.length + 1 ≤ 140737488355328 := by omega
      have Hlk := Lib.hid hlk
      clear hlk
      clear s1 s2 hb2
      go_wp2_with (at_builtin; go_must (refine wpl_appendB rfl _ _ rfl tB S2.out _ 1 1 Hb2.out rfl rfl hL1 ?_); intro a3 c3 w3 s3; rw [E.out] at s3 ⊢; obtain ⟨g3, rfl⟩ := row_head s3 (by rw [List.length_append]; simp [be4]); have S3 := Lib.hid s3; clear s3)
      go_roundw
      case rel => exact ⟨3 + 1, g3, c3, by omega, rfl, by simp, S3.out⟩
      case measure => simp [intOf]
    · have S1 := Lib.hid s1
      clear s1
      go_wp2_with fail
      go_ret
      exact ⟨g', c', rfl, S1.out⟩
end
end Go.Proofs.Ytnfkcmcchkcflaa.RcW
