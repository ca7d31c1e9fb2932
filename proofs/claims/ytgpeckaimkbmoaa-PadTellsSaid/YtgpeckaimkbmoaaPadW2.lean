/- The walks of package pad: Cut, Join; slices.Concat, slices.Grow, slices.ContainsFunc at [][]byte. -/
import Derived.Test.YtgpeckaimkbmoaaPadW
namespace Go.Proofs.Ytgpeckaimkbmoaa.PadW
open Go Go.RowKit Go.Proofs.Ytgpeckaimkbmoaa Go.Proofs.Ytgpeckaimkbmoaa.Sp Go.Proofs.Ytgpeckaimkbmoaa.Reg Go.Proofs.Ytgpeckaimkbmoaa.SlW

theorem tBB : SlT Try.prog 35 22 1 24 (.slice none 0 0) := ⟨Try.underlying35, info_parts (by kernel_rfl), rfl, by decide⟩
/-- A slice of slices is handed back, and true. -/
def RetBSSok (w : World) (bss : List (List UInt8)) (e : Ending) (w' : World) : Prop := ∃ v', e = .returned (.tuple #[v', .bool true]) ∧ Add w w' ∧ BSS w' v' bss
def piece (full : List UInt8) (i : Nat) : List UInt8 := (full.drop (16 * i)).take 16
theorem piece_len (full : List UInt8) (h : full.length = 64) (i : Nat) (hi : i < 4) : (piece full i).length = 16 := by unfold piece; simp; omega
set_option maxHeartbeats 400000 in
theorem cut_no (a : Option Addr) (n c : Nat) (w : World) (h : 64 < n) : Calls Try.prog 30 #[.slice a n c] w (RetNo w) := by
  go_enter Try.func30, Try.ntmps30
  go_wp2_with fail
  refine (full_no a n c w h).mono ?_
  rintro e w1 ⟨rfl, h1⟩
  have H1 := Lib.hid h1
  clear h1
  go_wp2_with fail
  go_ret2
  exact ⟨rfl, H1.out⟩
set_option maxHeartbeats 800000 in
theorem cut_yes (a : Option Addr) (c : Nat) (bs : List UInt8) (w : World) (hb : BS w (.slice a bs.length c) bs) (hl : bs.length ≤ 64) :
    Calls Try.prog 30 #[.slice a bs.length c] w (RetBSSok w ((List.range 4).map (piece (bs ++ List.replicate (64 - bs.length) 0)))) := by
  have HB := Lib.hid hb
  clear hb
  go_enter Try.func30, Try.ntmps30
  go_wp2_with fail
  refine (full_yes a c bs w HB.out hl (St.init w)).mono ?_
  have hfl : (bs ++ List.replicate (64 - bs.length) (0 : UInt8)).length = 64 := by simp; omega
  generalize hF : bs ++ List.replicate (64 - bs.length) (0 : UInt8) = full at hfl ⊢
  have HFL := Lib.hid hfl
  have HF := Lib.hid hF
  clear hfl hF
  rintro e w1 ⟨v1, rfl, s1, n1⟩
  obtain ⟨h1, g, cap, rfl, hcap, hcm, -, -, -, -, -⟩ := s1.rowB n1
  rw [HFL.out] at hcap
  have S1 := Lib.hid s1
  clear s1 n1 h1 hl HB
  rw [HFL.out] at S1 ⊢
  go_wp2_with fail
  go_loopw [6, 7, 15] (fun v6 v7 v15 wr => ∃ (k : Nat) (vs : List Value), k ≤ 4 ∧ v15 = .int .i64 k ∧ vs.length = k ∧
      St w.heap.size w wr (row 22 1 v6 k vs * (rows 5 vs ((List.range k).map (piece full)) * (row 5 1 (.slice (some ⟨g, 0, none⟩) 64 cap) 64 (bvs full) * emp)))) (fun _ _ i _ => 4 - (intOf i).toNat)
  case atStart => exact ⟨0, [], by omega, rfl, rfl, by have := S1.out.rowNil 22 1; exact this.eq (by show _ = _ * (emp * _); rw [emp_sep])⟩
  case round =>
    obtain ⟨k, vs, hk, rfl, hvl, hs⟩ := hrel
    have HS := Lib.hid hs
    have HVL := Lib.hid hvl
    clear hs hvl
    by_cases hlt : k < 4
    · have hsl : ∀ w, (Instr.sliceAt 22 (.slice (some ⟨g, 0, none⟩) 64 cap) (some (.int .i64 (16 * ↑k))) (some (.int .i64 (16 * (↑k + 1)))) none).run Try.prog w = .ok (.slice (subA (some ⟨g, 0, none⟩) cap (16 * k) 1) 16 (cap - 16 * k)) w := fun w => by
        have := run_slice_sl tB w (some ⟨g, 0, none⟩) 64 cap (some (.int .i64 ↑(16 * k))) (some (.int .i64 ↑(16 * (k + 1)))) (16 * k) (16 * (k + 1)) (.inr ⟨_, rfl⟩) (.inr ⟨_, rfl⟩) (by omega) (by omega)
        have e : 16 * (k + 1) - 16 * k = 16 := by omega
        rw [e] at this
        exact this
      have hfull : BS wr (.slice (some ⟨g, 0, none⟩) 64 cap) full := HS.out.right.right.bs
      have hbs : BS wr (.slice (subA (some ⟨g, 0, none⟩) cap (16 * k) 1) 16 (cap - 16 * k)) (piece full k) := by
        have := hfull.sub (16 * k) (16 * (k + 1)) (by omega) (by rw [HFL.out]; omega)
        have e : 16 * (k + 1) - 16 * k = 16 := by omega
        rw [e] at this
        exact this
      have HBS := Lib.hid hbs
      clear hbs hfull
      go_wp2_with fail
      clear hsl
      have hpl := piece_len full HFL.out k hlt
      generalize hP : piece full k = P at hpl HBS
      have HP := Lib.hid hP
      have HPL := Lib.hid hpl
      clear hP hpl
      refine (clone_callsN _ 16 _ P _ HBS.out (by omega) HS.out).mono ?_
      rintro e w2 ⟨v2, rfl, s2, -⟩
      obtain ⟨-, a2, c2, rfl, -, -⟩ := s2.rowBS P rfl
      have s3 := s2.alloc (.cells #[.slice a2 P.length c2] 22)
      have s4 := Lib.hid (St.eq (Q := row 22 1 u6 k vs * (pts w2.heap.size (.cells #[.slice a2 P.length c2] 22) * (row 5 1 (.slice a2 P.length c2) P.length (bvs P) * (rows 5 vs ((List.range k).map (piece full)) * (row 5 1 (.slice (some ⟨g, 0, none⟩) 64 cap) 64 (bvs full) * emp))))) (by ac_rfl) s3)
      have hr := Lib.hid (Rd.new w2 #[.slice a2 P.length c2] 22)
      clear s2 s3 HBS HS
      go_wp2_with (at_builtin; go_must (refine wpl_append rfl _ _ rfl tBB s4.out (some ⟨w2.heap.size, 0, none⟩) 1 1 [.slice a2 P.length c2] rfl rfl hr.out (fun e => by cases e) (by simp) (by simp [Value.oneCell']) (by unfold maxLen; omega) (by omega) ?_); intro v5 w5 s5 hv5; have S5 := Lib.hid s5; clear s5 hv5 s4 hr)
      go_roundw
      case rel =>
        refine ⟨k + 1, vs ++ [.slice a2 P.length c2], by omega, by go_num, by simp [HVL.out], ?_⟩
        have e1 : (List.range (k + 1)).map (piece full) = (List.range k).map (piece full) ++ [P] := by rw [List.range_succ, List.map_append, List.map_singleton, HP.out]
        rw [e1, rows_snoc _ _ _ _ _ (by simp [HVL.out])]
        have s6 := S5.out
        have s7 := St.eq (Q := pts w2.heap.size (.cells #[.slice a2 P.length c2] 22) * (row 22 1 v5 (k + 1) (vs ++ [.slice a2 P.length c2]) * (rows 5 vs ((List.range k).map (piece full)) * row 5 1 (.slice a2 P.length c2) P.length (bvs P) * (row 5 1 (.slice (some ⟨g, 0, none⟩) 64 cap) 64 (bvs full) * emp)))) (by ac_rfl) s6
        exact s7.right
      case measure => simp [intOf]; omega
    · obtain rfl : k = 4 := by omega
      go_wp2_with fail
      go_ret2
      exact ⟨u6, rfl, HS.out.below, by rw [HF.out]; exact HS.out.bss (by simp)⟩

/-- The predicate of Join: not of sixteen bytes. -/
theorem pred_calls (a : Option Addr) (n c : Nat) (w : World) : Calls Try.prog 38 #[.slice a n c] w fun e w' => e = .returned (.bool ((n : Int) != 16)) ∧ w = w' := by
  go_enter Try.func38, Try.ntmps38
  go_wp2_with fail
  go_ret
  exact ⟨rfl, rfl⟩
/-- Where the first is that is not of sixteen bytes, or -1. -/
def firstNot : List (List UInt8) → Nat → Int
  | [], _ => -1
  | b :: bss, k => if (b.length : Int) != 16 then k else firstNot bss (k + 1)
theorem firstNot_drop (bss : List (List UInt8)) (k : Nat) (h : k < bss.length) : firstNot (bss.drop k) k = if (bss[k].length : Int) != 16 then (k : Int) else firstNot (bss.drop (k + 1)) (k + 1) := by
  rw [List.drop_eq_getElem_cons h]; rfl
theorem firstNot_spec (bss : List (List UInt8)) : ∀ k, (0 ≤ firstNot bss k ↔ ¬ ∀ b ∈ bss, b.length = 16) := by
  induction bss with
  | nil => intro k; simp [firstNot]
  | cons b bss ih =>
    intro k
    unfold firstNot
    by_cases h : b.length = 16
    · have : ((b.length : Int) != 16) = false := by rw [h]; rfl
      rw [this]
      simp only [Bool.false_eq_true, if_false]
      rw [ih]
      simp [h]
    · have : ((b.length : Int) != 16) = true := by rw [bne_iff_ne]; omega
      rw [this]
      simp [h]
set_option maxHeartbeats 800000 in
theorem index_calls (A : Option Addr) (cA : Nat) (bss : List (List UInt8)) (w : World) (h : BSS w (.slice A bss.length cA) bss) :
    Calls Try.prog 44 #[.slice A bss.length cA, .func (.func 38) #[] #[]] w fun e w' => e = .returned (.int .i64 (firstNot bss 0)) ∧ w = w' := by
  obtain ⟨A', c', vs, e, hr, hlv, hlc, hcm, hnone, hb⟩ := h
  cases e
  have hm : bss.length ≤ 9223372036854775807 := by unfold maxLen at hcm; omega
  have HR := Lib.hid hr
  have HLV := Lib.hid hlv
  have HB := Lib.hid hb
  clear hr hlv hb hlc hcm hnone
  go_enter Try.func44, Try.ntmps44
  go_wp2_with fail
  go_loop [5, 8] (fun _ i => ∃ k : Nat, k ≤ bss.length ∧ i = .int .i64 k ∧ firstNot (bss.drop k) k = firstNot bss 0) (fun _ i => bss.length - (intOf i).toNat)
  case atStart => exact ⟨0, by omega, rfl, rfl⟩
  case round =>
    obtain ⟨k, hk, rfl, hf⟩ := hrel
    have HF := Lib.hid hf
    clear hf
    by_cases hlt : k < bss.length
    · obtain ⟨v, hvk, a, c, rfl, -, -, -, -⟩ := HB.out k hlt
      obtain ⟨b, off, rfl, hc⟩ := HR.out.at (by have := HLV.out; rintro rfl; rw [List.length_nil] at this; omega)
      have hcell := hc k _ hvk
      have HD := Lib.hid (firstNot_drop bss k hlt)
      clear hc hvk HB HR HLV
      by_cases h16 : ((bss[k].length : Int) != 16) = true
      · go_wp2_with (go_at_call 38; refine (pred_calls _ _ _ _).mono ?_; rintro e w' ⟨rfl, rfl⟩)
        go_ret
        exact ⟨by rw [← HF.out, HD.out, if_pos h16]; rfl, rfl⟩
      · have h16' : ((bss[k].length : Int) != 16) = false := by simpa using h16
        clear h16
        go_wp2_with (go_at_call 38; refine (pred_calls _ _ _ _).mono ?_; rintro e w' ⟨rfl, rfl⟩)
        go_round
        case rel => exact ⟨k + 1, by omega, by go_num, by rw [← HF.out, HD.out, h16']; rfl⟩
        case measure => simp [intOf]; omega
    · obtain rfl : k = bss.length := by omega
      go_wp2_with fail
      go_ret
      exact ⟨by rw [← HF.out, List.drop_length]; rfl, rfl⟩
theorem contains_calls (A : Option Addr) (cA : Nat) (bss : List (List UInt8)) (w : World) (h : BSS w (.slice A bss.length cA) bss) :
    Calls Try.prog 37 #[.slice A bss.length cA, .func (.func 38) #[] #[]] w fun e w' => e = .returned (.bool (decide (0 ≤ firstNot bss 0))) ∧ w = w' := by
  have H := Lib.hid h
  clear h
  go_enter Try.func37, Try.ntmps37
  go_wp2_with fail
  refine (index_calls _ _ bss _ H.out).mono ?_
  rintro e w' ⟨rfl, rfl⟩
  go_wp2_with fail
  go_ret
  exact ⟨rfl, rfl⟩
end Go.Proofs.Ytgpeckaimkbmoaa.PadW
