/- slices.Grow, slices.Concat at [][]byte, walked. No condition. -/
import Derived.Test.YtjnfhppjkadlpaaSlW
import Derived.Test.YtjnfhppjkadlpaaRws
set_option linter.unusedSimpArgs false
set_option linter.unusedVariables false
namespace Go.Proofs.Ytjnfhppjkadlpaa.Cnc
open Go Go.RowKit Go.Proofs.Ytjnfhppjkadlpaa Go.Proofs.Ytjnfhppjkadlpaa.Sp Go.Proofs.Ytjnfhppjkadlpaa.Reg Go.Proofs.Ytjnfhppjkadlpaa.SlW
set_option maxHeartbeats 800000 in
theorem grow_calls (n : Nat) (w : World) (hn : n ≤ 1000000) {B : Nat} {w0 : World} {R : HP} (s : St B w0 w R) :
    Calls Try.prog 67 #[.slice none 0 0, .int .i64 n] w (NewB B w0 R [] (n = 0)) := by
  have S := Lib.hid (s.rowNil 5 1)
  clear s
  by_cases h0 : n = 0
  · subst h0
    have hsl : ∀ w, (Instr.sliceAt 32 (.slice none 0 0) none (some (.int .i64 0)) none).run Try.prog w = .ok (.slice none 0 0) w := fun w => by
      have := run_slice_sl tB w none 0 0 none (some (.int .i64 0)) 0 0 (.inl ⟨rfl, rfl⟩) (.inr ⟨_, rfl⟩) (by omega) (by omega)
      simpa using this
    go_enter Try.func67, Try.ntmps67
    go_wp2_with fail
    go_ret
    exact ⟨_, rfl, S.out, by simp⟩
  · have hsl : ∀ w, (Instr.sliceAt 32 (.slice none 0 0) none (some (.int .i64 0)) none).run Try.prog w = .ok (.slice none 0 0) w := fun w => by
      have := run_slice_sl tB w none 0 0 none (some (.int .i64 0)) 0 0 (.inl ⟨rfl, rfl⟩) (.inr ⟨_, rfl⟩) (by omega) (by omega)
      simpa using this
    have hsl2 : ∀ w a m c, (Instr.sliceAt 32 (.slice (some a) m c) none (some (.int .i64 0)) none).run Try.prog w = .ok (.slice (some a) 0 c) w := fun w a m c => by
      have := run_slice_sl tB w (some a) m c none (some (.int .i64 0)) 0 0 (.inl ⟨rfl, rfl⟩) (.inr ⟨_, rfl⟩) (by omega) (by omega)
      simpa [Addr.add] using this
    have hpos : 0 < n := by omega
    go_enter Try.func67, Try.ntmps67
    go_wp2_with (at_builtin; go_must (refine wpl_appendZ rfl _ _ rfl tB rfl rfl Try.underlying3 S.out n rfl rfl (by unfold maxLen; omega) (by omega) ?_); intro v2 w2 s2 hv2; obtain ⟨g, cap, rfl, hnc, -, -, hsh⟩ := s2.rowSome (fun e => by have := (hv2.1 e).2; omega); have T := Lib.hid (hsh 0 (Nat.zero_le _)); have hx := fun w => hsl2 w ⟨g, 0, none⟩ (0 + n) cap; clear hsh hnc s2 hv2 S hsl2)
    go_ret
    exact ⟨_, rfl, by simpa using T.out, by simp [h0]⟩
/-- The first k, one behind the other. -/
def cat (bss : List (List UInt8)) (k : Nat) : List UInt8 := (bss.take k).flatten
def catLen (bss : List (List UInt8)) (k : Nat) : Nat := (cat bss k).length
theorem cat_succ (l : List (List UInt8)) (k : Nat) (h : k < l.length) : cat l (k + 1) = cat l k ++ l[k] := by
  unfold cat; rw [List.take_succ_eq_append_getElem h, List.flatten_append, List.flatten_cons, List.flatten_nil, List.append_nil]
theorem catLen_succ (l : List (List UInt8)) (k : Nat) (h : k < l.length) : catLen l (k + 1) = catLen l k + l[k].length := by
  unfold catLen; rw [cat_succ l k h, List.length_append]
theorem cat_zero (l : List (List UInt8)) : cat l 0 = [] := rfl
theorem catLen_zero (l : List (List UInt8)) : catLen l 0 = 0 := rfl
theorem catLen_mono (l : List (List UInt8)) (n : Nat) (hn : n ≤ l.length) : ∀ d k, k + d = n → catLen l k ≤ catLen l n
  | 0, k, h => by rw [show k = n by omega]; exact Nat.le_refl _
  | d + 1, k, h => Nat.le_trans (by rw [catLen_succ l k (by omega)]; omega) (catLen_mono l n hn d (k + 1) (by omega))
/-- A new row of these bytes. -/
def NewB' (B : Nat) (w0 : World) (R : HP) (bs : List UInt8) (e : Ending) (w' : World) : Prop := ∃ v', e = .returned v' ∧ St B w0 w' (row 5 1 v' bs.length (bvs bs) * R)
set_option maxHeartbeats 1600000 in
theorem concat_calls (A : Option Addr) (cA : Nat) (bss : List (List UInt8)) (w : World) (h : BSS w (.slice A bss.length cA) bss) (hn : catLen bss bss.length ≤ 1000000) :
    Calls Try.prog 51 #[.slice A bss.length cA] w (NewB' w.heap.size w emp (cat bss bss.length)) := by
  obtain ⟨A', c', vs, e, hr, hlv, hlc, hcm, hnone, hb⟩ := h
  cases e
  have hm : bss.length ≤ 9223372036854775807 := by unfold maxLen at hcm; omega
  have HR := Lib.hid hr
  have HLV := Lib.hid hlv
  have HB := Lib.hid hb
  clear hr hlv hb hlc hcm hnone
  go_enter Try.func51, Try.ntmps51
  go_wp2_with fail
  go_loop [3, 5, 11] (fun v _ i => ∃ k : Nat, k ≤ bss.length ∧ i = .int .i64 k ∧ v = .int .i64 (catLen bss k : Int)) (fun _ _ i => bss.length - (intOf i).toNat)
  case atStart => exact ⟨0, by omega, rfl, rfl⟩
  case round =>
    obtain ⟨k, hk, rfl, rfl⟩ := hrel
    by_cases hlt : k < bss.length
    · obtain ⟨v, hvk, a, c, rfl, -, -, -, -⟩ := HB.out k hlt
      obtain ⟨b, off, rfl, hc⟩ := HR.out.at (by have := HLV.out; rintro rfl; rw [List.length_nil] at this; omega)
      have hcell := hc k _ hvk
      have h1 := catLen_mono bss bss.length (Nat.le_refl _) (bss.length - (k + 1)) (k + 1) (by omega)
      have h3 := catLen_succ bss k hlt
      have h4 : 0 ≤ (catLen bss k : Int) + (bss[k].length : Int) := by omega
      have h5 : (catLen bss k : Int) + (bss[k].length : Int) ≤ 1000000 := by omega
      have H3 := Lib.hid h3
      clear hc hvk HB HR HLV h1 h3
      go_wp2_with fail
      go_round
      case rel => exact ⟨k + 1, by omega, by go_num, by rw [H3.out]; go_num⟩
      case measure => simp [intOf]; omega
    · obtain rfl : k = bss.length := by omega
      clear hlt hk
      go_wp2_with fail
      refine (grow_calls _ _ hn (St.init w)).mono ?_
      rintro e w1 ⟨v1, rfl, s1, n1⟩
      have S1 := Lib.hid s1
      clear s1 n1
      go_wp2_with fail
      go_loopw [6, 8, 27] (fun v _ i wr => ∃ k : Nat, k ≤ bss.length ∧ i = .int .i64 k ∧ St w.heap.size w wr (row 5 1 v (catLen bss k) (bvs (cat bss k)) * emp)) (fun _ _ i _ => bss.length - (intOf i).toNat)
      case atStart => exact ⟨0, by omega, rfl, S1.out⟩
      case round =>
        obtain ⟨k, hk, rfl, hs⟩ := hrel
        have HS := Lib.hid hs
        clear hs
        by_cases hlt : k < bss.length
        · obtain ⟨v, hvk, a, c, rfl, hb1, hb2, hb3, hb4⟩ := HB.out k hlt
          obtain ⟨b, off, rfl, hc⟩ := (HR.out.below HS.out.below).at (by have := HLV.out; rintro rfl; rw [List.length_nil] at this; omega)
          have hcell := hc k _ hvk
          have hrd := Lib.hid (hb4.below HS.out.below)
          have h1 := catLen_mono bss bss.length (Nat.le_refl _) (bss.length - (k + 1)) (k + 1) (by omega)
          have h3 := catLen_succ bss k hlt
          have h4 : catLen bss k + bss[k].length ≤ 1000000 := by omega
          have H3 := Lib.hid h3
          have H4 := Lib.hid (cat_succ bss k hlt)
          have HN := Lib.hid hb3
          clear hc hvk HB HR HLV h1 h3 hb1 hb2 hb3 hb4
          go_wp2_with (at_builtin; go_must (refine wpl_append rfl _ _ rfl tB HS.out a bss[k].length c (bvs bss[k]) rfl rfl hrd.out HN.out (by simp) (bvs_one _) (by unfold maxLen; omega) (by omega) ?_); intro v5 w5 s5 hv5; have S5 := Lib.hid s5; clear s5 hv5 HS hrd)
          go_roundw
          case rel => exact ⟨k + 1, by omega, by go_num, by rw [H3.out, H4.out]; simpa [bvs] using S5.out⟩
          case measure => simp [intOf]; omega
        · obtain rfl : k = bss.length := by omega
          go_wp2_with fail
          go_ret
          exact ⟨_, rfl, HS.out⟩
end Go.Proofs.Ytjnfhppjkadlpaa.Cnc
