/- Go's sort of a row of bytes that one owns: the row, Less, the insertion sort. No condition. -/
import Derived.Test.YtjnfhppjkadlpaaSp
import Derived.Test.YtjnfhppjkadlpaaMgB
import Derived.Sort.AssemblyPlain
import Derived.CellFam
import Derived.BigGuard
import Derived.BigCall
import Derived.BigQuiet
import Derived.Deep.Draws
import Derived.Deep.QuietTactic
import Derived.Deep.CutBlock
import Derived.Deep.DeepCutAuto
import Derived.Sort.LotD4

set_option linter.unusedSimpArgs false
set_option linter.unusedVariables false
namespace Go.Proofs.Ytjnfhppjkadlpaa.SrA
open Go Go.RowKit Go.Sort Go.Proofs.Ytjnfhppjkadlpaa Go.Proofs.Ytjnfhppjkadlpaa.Sp
/-- Less, at bytes. -/
def ltU (x y : UInt8) : Bool := decide (x.toNat < y.toNat)
/-- The cells of a row, and what stands behind it. -/
def ac (d : Array UInt8) (X : List Value) : Array Value := (bvs d.toList ++ X).toArray
/-- A row of bytes at the head of its block. -/
def arr (g : Nat) (d : Array UInt8) (X : List Value) : HP := pts g (.cells (ac d X) 5 (0, 0))
theorem ac_get {d : Array UInt8} {X : List Value} {t : Nat} (h : t < d.size) : (ac d X)[t]? = some (bv d[t]!) := by
  have h1 : t < d.toList.length := by simpa using h
  simp [ac, List.getElem?_append, h, getElem!_pos]
theorem ac_set {d : Array UInt8} {X : List Value} {t : Nat} (h : t < d.size) (x : UInt8) : (ac d X).setIfInBounds t (bv x) = ac (d.setIfInBounds t x) X := by
  simp [ac, List.set_append, h, bvs, List.map_set]
section
variable {B : Nat} {w0 w : World} {R : HP} {g : Nat} {d : Array UInt8} {X : List Value}
theorem arr_fam (s : St B w0 w (arr g d X * R)) : ∀ t, t < d.size → w.cell? ⟨g, t, none⟩ = some (.int .u8 ((d[t]!).toNat : Int)) := fun t ht => by
  exact (St.cell s t).trans (ac_get ht)
theorem arr_free (s : St B w0 w (arr g d X * R)) : ∀ t, t < d.size → w.frozen? ⟨g, t, none⟩ = false := fun t _ => St.free s t
theorem arr_swp {n i j : Nat} (hi : i < d.size) (hj : j < d.size) (s : St B w0 w (arr g d X * R)) :
    St B w0 (((w.drewN n).setCell ⟨g, i, none⟩ (bv d[j]!)).setCell ⟨g, j, none⟩ (bv d[i]!)) (arr g (swp d i j) X * R) := by
  have q := (St.set (St.set (s.drewN n) i (bv d[j]!)) j (bv d[i]!))
  rw [ac_set hi, ac_set (by simpa using hj)] at q
  exact q
end
theorem nan_calls (x : UInt8) (w : World) : Calls Try.prog 101 #[bv x] w fun e w' => e = .returned (.bool false) ∧ w' = w := by
  go_enter Try.func101, Try.ntmps101
  go_wp2_with fail
  go_ret
  exact ⟨by simp, rfl⟩
theorem less_calls (x y : UInt8) (w : World) : Calls Try.prog 83 #[bv x, bv y] w fun e w' => e = .returned (.bool (ltU x y)) ∧ w' = w := by
  go_enter Try.func83, Try.ntmps83
  go_wp2_with (go_at_call 101; refine (nan_calls _ _).mono ?_; rintro e w' ⟨rfl, rfl⟩)
  go_ret
  exact ⟨rfl, rfl⟩
/-! ### the insertion sort: what a round does -/
section
variable {α : Type} [Inhabited α] (lt : α → α → Bool)
theorem insI_go (a j : Nat) (d : Array α) (hj : a < j) (hl : lt d[j]! d[j - 1]! = true) : insInner lt a j d = insInner lt a (j - 1) (swp d j (j - 1)) := by
  obtain ⟨k, rfl⟩ : ∃ k, j = k + 1 := ⟨j - 1, by omega⟩
  conv => lhs; unfold insInner
  rw [Nat.add_sub_cancel] at hl ⊢
  rw [if_pos (by simp [hl]; omega)]
theorem insI_end (a j : Nat) (d : Array α) (h : j ≤ a ∨ lt d[j]! d[j - 1]! = false) : insInner lt a j d = d := by
  cases j with
  | zero => rfl
  | succ k =>
    unfold insInner
    rw [Nat.add_sub_cancel] at h
    refine if_neg ?_
    rcases h with h | h
    · simp; intro; omega
    · simp [h]
theorem insO_go (a b i : Nat) (d : Array α) (h : i < b) : insOuter lt a b i d = insOuter lt a b (i + 1) (insInner lt a i d) := by conv => lhs; unfold insOuter; rw [if_pos h]
theorem insO_end (a b i : Nat) (d : Array α) (h : ¬ i < b) : insOuter lt a b i d = d := by unfold insOuter; rw [if_neg h]
end
section
variable {B : Nat} {w0 : World} {R : HP}
set_option maxRecDepth 100000 in
set_option maxHeartbeats 4000000 in
theorem ins_calls (g n c a b : Nat) (d : Array UInt8) (X : List Value) (hn : d.size = n) (hs : n ≤ 1000000) (hab : a ≤ b) (hb : b ≤ n) (w : World) (s : St B w0 w (arr g d X * R)) :
    Calls Try.prog 77 #[.slice (some ⟨g, 0, none⟩) n c, .int .i64 a, .int .i64 b] w fun e w' => e = .returned (.tuple #[]) ∧ St B w0 w' (arr g (insertionSort ltU d a b) X * R) := by
  have S := Lib.hid s
  have Hn := Lib.hid hn
  clear s hn
  go_enter Try.func77, Try.ntmps77
  go_wp2_with fail
  go_loopw [6] (fun vi wr => ∃ (i : Nat) (dk : Array UInt8), vi = .int .i64 i ∧ a < i ∧ i ≤ b + 1 ∧ dk.size = n ∧ insOuter ltU a b i dk = insertionSort ltU d a b ∧ St B w0 wr (arr g dk X * R)) (fun vi _ => b + 1 - (intOf vi).toNat)
  case atStart => exact ⟨a + 1, d, by go_num, by omega, by omega, Hn.out, rfl, S.out⟩
  case round =>
    obtain ⟨i, dk, rfl, hai, hib, hsk, hO, s1⟩ := hrel
    clear S
    by_cases hlt : i < b
    · have hltI : (i : Int) < (b : Int) := by omega
      have HO := Lib.hid ((insO_go ltU a b i dk hlt).symm.trans hO)
      have S1 := Lib.hid s1
      have HSK := Lib.hid hsk
      clear hO s1 hsk
      go_wp2_with fail
      go_loopw [7] (fun vj wr2 => ∃ (j : Nat) (dj : Array UInt8), vj = .int .i64 j ∧ a ≤ j ∧ j ≤ i ∧ dj.size = n ∧ insInner ltU a j dj = insInner ltU a i dk ∧ St B w0 wr2 (arr g dj X * R)) (fun vj _ => (intOf vj).toNat)
      case atStart => exact ⟨i, dk, rfl, by omega, Nat.le_refl _, HSK.out, rfl, S1.out⟩
      case round =>
        obtain ⟨j, dj, rfl, haj, hji, hsj, hI, s2⟩ := hrel
        clear S1
        obtain ⟨G, hG⟩ : ∃ G : Nat → UInt8, ∀ t, G t = dj[t]! := ⟨fun t => dj[t]!, fun _ => rfl⟩
        have HG := Lib.hid hG
        have HSJ := Lib.hid hsj
        have S2 := Lib.hid s2
        by_cases hja : a < j
        · have c1 := arr_fam s2 j (by omega)
          have c2 := arr_fam s2 (j - 1) (by omega)
          have f1 := arr_free s2 j (by omega)
          have f2 := arr_free s2 (j - 1) (by omega)
          rw [← hG] at c1 c2
          cases hl : ltU (G j) (G (j - 1)) with
          | true =>
            have HL := Lib.hid (hl)
            have HI := Lib.hid ((insI_go ltU a j dj hja (by rw [← hG, ← hG]; exact hl)).symm.trans hI)
            clear hsj hG s2 hI
            go_wp2_with fail
            go_quiet (first | (go_at_call 83; refine Calls.quiet_of_same (less_calls _ _ _)))
            go_wp2_with fail
            clear hl
            go_region
            all_goals go_wp2_with fail
            go_roundw
            case rel =>
              have hz := HSJ.out
              refine ⟨j - 1, swp dj j (j - 1), by congr 1; omega, by omega, by omega, by rw [size_swp]; exact HSJ.out, HI.out, ?_⟩
              rw [HG.out, HG.out]
              exact arr_swp (by omega) (by omega) S2.out
            case measure => (simp [intOf] <;> omega)
          | false =>
            have HI := Lib.hid ((insI_end ltU a j dj (.inr (by rw [← hG, ← hG]; exact hl))).symm.trans hI)
            clear hsj hG s2 hI
            go_wp2_with fail
            go_quiet (first | (go_at_call 83; refine Calls.quiet_of_same (less_calls _ _ _)))
            go_wp2_with fail
            go_roundw
            case rel => exact ⟨i + 1, dj, by go_num, by omega, by omega, HSJ.out, by rw [HI.out]; exact HO.out, S2.out.drewN _⟩
            case measure => (simp [intOf] <;> omega)
        · have HI := Lib.hid ((insI_end ltU a j dj (.inl (by omega))).symm.trans hI)
          clear hsj hG s2 hI
          go_wp2_with fail
          go_quiet (first | (go_at_call 83; refine Calls.quiet_of_same (less_calls _ _ _)))
          go_wp2_with fail
          go_roundw
          case rel => exact ⟨i + 1, dj, by go_num, by omega, by omega, HSJ.out, by rw [HI.out]; exact HO.out, S2.out.drewN _⟩
          case measure => (simp [intOf] <;> omega)
    · have E := Lib.hid ((insO_end ltU a b i dk hlt).symm.trans hO)
      have S1 := Lib.hid s1
      have hge : ¬ (i : Int) < (b : Int) := by omega
      clear hO s1 hsk
      go_wp2_with fail
      go_end0
      exact ⟨rfl, by rw [← E.out]; exact S1.out⟩
end
end Go.Proofs.Ytjnfhppjkadlpaa.SrA

set_option linter.unusedSimpArgs false
set_option linter.unusedVariables false
namespace Go.Proofs.Ytjnfhppjkadlpaa.SrA
open Go Go.RowKit Go.Sort Go.Proofs.Ytjnfhppjkadlpaa Go.Proofs.Ytjnfhppjkadlpaa.Sp
section
variable {α : Type} [Inhabited α] (lt : α → α → Bool)
theorem sd_end (hi first root : Nat) (d : Array α) (h : hi ≤ 2 * root + 1) : siftDown lt hi first root d = d := by unfold siftDown; rw [dif_pos h]
theorem sd_right {hi first root : Nat} {d : Array α} (h : 2 * root + 2 < hi) (hl : lt d[first + (2 * root + 1)]! d[first + (2 * root + 2)]! = true) :
    siftDown lt hi first root d = if lt d[first + root]! d[first + (2 * root + 2)]! = true then siftDown lt hi first (2 * root + 2) (swp d (first + root) (first + (2 * root + 2))) else d := by
  conv => lhs; unfold siftDown
  rw [dif_neg (by omega), if_pos (by simp only [Bool.and_eq_true, decide_eq_true_eq]; exact ⟨by omega, hl⟩)]
  cases h2 : lt d[first + root]! d[first + (2 * root + 2)]!
  · rfl
  · rw [if_neg (by simp), dif_pos h, if_pos rfl]
theorem sd_left {hi first root : Nat} {d : Array α} (h : 2 * root + 1 < hi) (hl : ¬ 2 * root + 2 < hi ∨ lt d[first + (2 * root + 1)]! d[first + (2 * root + 2)]! = false) :
    siftDown lt hi first root d = if lt d[first + root]! d[first + (2 * root + 1)]! = true then siftDown lt hi first (2 * root + 1) (swp d (first + root) (first + (2 * root + 1))) else d := by
  conv => lhs; unfold siftDown
  rw [dif_neg (by omega), if_neg (by
    simp only [Bool.and_eq_true, decide_eq_true_eq]
    rintro ⟨g1, g2⟩
    rcases hl with hl | hl
    · omega
    · rw [show first + (2 * root + 2) = first + (2 * root + 1) + 1 by omega, g2] at hl; cases hl)]
  cases h2 : lt d[first + root]! d[first + (2 * root + 1)]!
  · rfl
  · rw [if_neg (by simp), if_pos rfl]
end
section
variable {B : Nat} {w0 : World} {R : HP}
set_option maxRecDepth 100000 in
set_option maxHeartbeats 8000000 in
theorem sift_calls (g n c lo hi first : Nat) (d : Array UInt8) (X : List Value) (hn : d.size = n) (hs : n ≤ 1000000) (hlo : lo ≤ hi) (hb : first + hi ≤ n) (w : World) (s : St B w0 w (arr g d X * R)) :
    Calls Try.prog 96 #[.slice (some ⟨g, 0, none⟩) n c, .int .i64 lo, .int .i64 hi, .int .i64 first] w fun e w' => e = .returned (.tuple #[]) ∧ St B w0 w' (arr g (siftDown ltU hi first lo d) X * R) := by
  have S := Lib.hid s
  have Hn := Lib.hid hn
  clear s hn
  go_enter Try.func96, Try.ntmps96
  go_wp2_with fail
  go_loopw [8] (fun vi wr => ∃ (root : Nat) (dk : Array UInt8), vi = .int .i64 root ∧ lo ≤ root ∧ root ≤ hi ∧ dk.size = n ∧ siftDown ltU hi first root dk = siftDown ltU hi first lo d ∧ St B w0 wr (arr g dk X * R)) (fun vi _ => hi - (intOf vi).toNat)
  case atStart => exact ⟨lo, d, rfl, Nat.le_refl _, hlo, Hn.out, rfl, S.out⟩
  case round =>
    obtain ⟨root, dk, rfl, hlr, hrh, hsk, hO, s1⟩ := hrel
    clear S
    have S1 := Lib.hid s1
    have HSK := Lib.hid hsk
    by_cases h0 : hi ≤ 2 * root + 1
    · have HE := Lib.hid ((sd_end ltU hi first root dk h0).symm.trans hO)
      have h0I : (hi : Int) ≤ 2 * (root : Int) + 1 := by omega
      clear hO s1 hsk
      go_wp2_with fail
      go_end0
      exact ⟨rfl, by rw [← HE.out]; exact S1.out⟩
    · have h0I : 2 * (root : Int) + 1 < (hi : Int) := by omega
      obtain ⟨G, hG⟩ : ∃ G : Nat → UInt8, ∀ t, G t = dk[t]! := ⟨fun t => dk[t]!, fun _ => rfl⟩
      have HG := Lib.hid hG
      have HF := Lib.hid (fun w' (s : St B w0 w' (arr g dk X * R)) t (ht : t < n) => show w'.cell? ⟨g, t, none⟩ = some (.int .u8 ((G t).toNat : Int)) ∧ w'.frozen? ⟨g, t, none⟩ = false from ⟨by rw [hG]; exact arr_fam s t (by omega), arr_free s t (by omega)⟩)
      have c0 := (HF.out _ s1 (first + root) (by omega)).1
      have c1 := (HF.out _ s1 (first + (2 * root + 1)) (by omega)).1
      by_cases h1 : 2 * root + 2 < hi
      · have h1I : 2 * (root : Int) + 1 + 1 < (hi : Int) := by omega
        have c2 : wr.cell? ⟨g, first + (2 * root + 1) + 1, none⟩ = some (.int .u8 ((G (first + (2 * root + 1 + 1))).toNat : Int)) := by rw [show first + (2 * root + 1) + 1 = first + (2 * root + 1 + 1) by omega]; exact (HF.out _ s1 (first + (2 * root + 1 + 1)) (by omega)).1
        cases hl : ltU (G (first + (2 * root + 1))) (G (first + (2 * root + 1 + 1))) with
        | true =>
          have HQ := Lib.hid ((sd_right ltU h1 (by rw [← hG, ← hG]; exact hl)).symm.trans hO)
          clear hO s1 hsk hG
          go_wp2_with fail
          go_quiet (first | (go_at_call 83; refine Calls.quiet_of_same (less_calls _ _ _)))
          clear hl c2 c0 c1
          have S2 := Lib.hid (S1.out.drewN nq)
          generalize wr.drewN nq = wr2 at S2 ⊢
          clear S1
          obtain ⟨c0, f0⟩ := HF.out _ S2.out (first + root) (by omega)
          obtain ⟨c1, f1⟩ := HF.out _ S2.out (first + (2 * root + 1 + 1)) (by omega)
          go_wp2_with fail
          cases hl2 : ltU (G (first + root)) (G (first + (2 * root + 1 + 1))) with
          | true =>
            have HE := Lib.hid (show siftDown ltU hi first (2 * root + 1 + 1) (swp dk (first + root) (first + (2 * root + 1 + 1))) = siftDown ltU hi first lo d from by rw [← HQ.out, if_pos (by rw [← HG.out, ← HG.out]; exact hl2)])
            go_wp2_with fail
            go_quiet (first | (go_at_call 83; refine Calls.quiet_of_same (less_calls _ _ _)))
            go_wp2_with fail
            clear hl2
            go_region
            all_goals go_wp2_with fail
            go_roundw
            case rel =>
              have hz := HSK.out
              refine ⟨2 * root + 1 + 1, swp dk (first + root) (first + (2 * root + 1 + 1)), by congr 1 <;> push_cast <;> omega, by omega, by omega, by rw [size_swp]; exact HSK.out, HE.out, ?_⟩
              rw [HG.out, HG.out]
              exact arr_swp (by omega) (by omega) S2.out
            case measure => (simp [intOf] <;> omega)
          | false =>
            have HE := Lib.hid (show dk = siftDown ltU hi first lo d from by rw [← HQ.out, if_neg (by rw [← HG.out, ← HG.out, hl2]; simp)])
            go_wp2_with fail
            go_quiet (first | (go_at_call 83; refine Calls.quiet_of_same (less_calls _ _ _)))
            go_wp2_with fail
            refine bodyPost_ret (results_none rfl _ _ _) rfl ?_
            exact ⟨rfl, by rw [← HE.out]; exact S2.out.drewN _⟩
        | false =>
          have HQ := Lib.hid ((sd_left ltU (by omega) (.inr (by rw [← hG, ← hG]; exact hl))).symm.trans hO)
          clear hO s1 hsk hG
          go_wp2_with fail
          go_quiet (first | (go_at_call 83; refine Calls.quiet_of_same (less_calls _ _ _)))
          clear hl c2 c0 c1
          have S2 := Lib.hid (S1.out.drewN nq)
          generalize wr.drewN nq = wr2 at S2 ⊢
          clear S1
          obtain ⟨c0, f0⟩ := HF.out _ S2.out (first + root) (by omega)
          obtain ⟨c1, f1⟩ := HF.out _ S2.out (first + (2 * root + 1)) (by omega)
          go_wp2_with fail
          cases hl2 : ltU (G (first + root)) (G (first + (2 * root + 1))) with
          | true =>
            have HE := Lib.hid (show siftDown ltU hi first (2 * root + 1) (swp dk (first + root) (first + (2 * root + 1))) = siftDown ltU hi first lo d from by rw [← HQ.out, if_pos (by rw [← HG.out, ← HG.out]; exact hl2)])
            go_wp2_with fail
            go_quiet (first | (go_at_call 83; refine Calls.quiet_of_same (less_calls _ _ _)))
            go_wp2_with fail
            clear hl2
            go_region
            all_goals go_wp2_with fail
            go_roundw
            case rel =>
              have hz := HSK.out
              refine ⟨2 * root + 1, swp dk (first + root) (first + (2 * root + 1)), by congr 1 <;> push_cast <;> omega, by omega, by omega, by rw [size_swp]; exact HSK.out, HE.out, ?_⟩
              rw [HG.out, HG.out]
              exact arr_swp (by omega) (by omega) S2.out
            case measure => (simp [intOf] <;> omega)
          | false =>
            have HE := Lib.hid (show dk = siftDown ltU hi first lo d from by rw [← HQ.out, if_neg (by rw [← HG.out, ← HG.out, hl2]; simp)])
            go_wp2_with fail
            go_quiet (first | (go_at_call 83; refine Calls.quiet_of_same (less_calls _ _ _)))
            go_wp2_with fail
            refine bodyPost_ret (results_none rfl _ _ _) rfl ?_
            exact ⟨rfl, by rw [← HE.out]; exact S2.out.drewN _⟩
      · have h1I : decide (2 * (root : Int) + 1 + 1 < (hi : Int)) = false := decide_eq_false (by omega)
        have HQ := Lib.hid ((sd_left ltU (by omega) (.inl h1)).symm.trans hO)
        clear hO s1 hsk hG
        go_wp2_with fail
        go_quiet (first | (go_at_call 83; refine Calls.quiet_of_same (less_calls _ _ _)))
        clear h1I c0 c1
        have S2 := Lib.hid (S1.out.drewN nq)
        generalize wr.drewN nq = wr2 at S2 ⊢
        clear S1
        obtain ⟨c0, f0⟩ := HF.out _ S2.out (first + root) (by omega)
        obtain ⟨c1, f1⟩ := HF.out _ S2.out (first + (2 * root + 1)) (by omega)
        go_wp2_with fail
        cases hl2 : ltU (G (first + root)) (G (first + (2 * root + 1))) with
        | true =>
          have HE := Lib.hid (show siftDown ltU hi first (2 * root + 1) (swp dk (first + root) (first + (2 * root + 1))) = siftDown ltU hi first lo d from by rw [← HQ.out, if_pos (by rw [← HG.out, ← HG.out]; exact hl2)])
          go_wp2_with fail
          go_quiet (first | (go_at_call 83; refine Calls.quiet_of_same (less_calls _ _ _)))
          go_wp2_with fail
          clear hl2
          go_region
          all_goals go_wp2_with fail
          go_roundw
          case rel =>
            have hz := HSK.out
            refine ⟨2 * root + 1, swp dk (first + root) (first + (2 * root + 1)), by congr 1 <;> push_cast <;> omega, by omega, by omega, by rw [size_swp]; exact HSK.out, HE.out, ?_⟩
            rw [HG.out, HG.out]
            exact arr_swp (by omega) (by omega) S2.out
          case measure => (simp [intOf] <;> omega)
        | false =>
          have HE := Lib.hid (show dk = siftDown ltU hi first lo d from by rw [← HQ.out, if_neg (by rw [← HG.out, ← HG.out, hl2]; simp)])
          go_wp2_with fail
          go_quiet (first | (go_at_call 83; refine Calls.quiet_of_same (less_calls _ _ _)))
          go_wp2_with fail
          refine bodyPost_ret (results_none rfl _ _ _) rfl ?_
          exact ⟨rfl, by rw [← HE.out]; exact S2.out.drewN _⟩
set_option maxRecDepth 100000 in
set_option maxHeartbeats 4000000 in
theorem rev_calls (g n c a b : Nat) (d : Array UInt8) (X : List Value) (hn : d.size = n) (hs : n ≤ 1000000) (hab : a < b) (hb : b ≤ n) (w : World) (s : St B w0 w (arr g d X * R)) :
    Calls Try.prog 81 #[.slice (some ⟨g, 0, none⟩) n c, .int .i64 a, .int .i64 b] w fun e w' => e = .returned (.tuple #[]) ∧ St B w0 w' (arr g (reverseRange d a b) X * R) := by
  have S := Lib.hid s
  have Hn := Lib.hid hn
  clear s hn
  go_enter Try.func81, Try.ntmps81
  go_wp2_with fail
  go_loopw [6, 7] (fun vi vj wr => ∃ (i j : Nat) (dk : Array UInt8), vi = .int .i64 i ∧ vj = .int .i64 j ∧ j < b ∧ i ≤ b ∧ dk.size = n ∧ reverseLoop i j dk = reverseRange d a b ∧ St B w0 wr (arr g dk X * R)) (fun vi _ _ => b - (intOf vi).toNat)
  case atStart => exact ⟨a, b - 1, d, rfl, by congr 1; omega, by omega, by omega, Hn.out, rfl, S.out⟩
  case round =>
    obtain ⟨i, j, dk, rfl, rfl, hjb, hib, hsk, hO, s1⟩ := hrel
    clear S
    have S1 := Lib.hid s1
    have HSK := Lib.hid hsk
    by_cases hij : i < j
    · have hijI : (i : Int) < (j : Int) := by omega
      obtain ⟨G, hG⟩ : ∃ G : Nat → UInt8, ∀ t, G t = dk[t]! := ⟨fun t => dk[t]!, fun _ => rfl⟩
      have HG := Lib.hid hG
      have c0 := arr_fam s1 i (by omega)
      have c1 := arr_fam s1 j (by omega)
      have f0 := arr_free s1 i (by omega)
      have f1 := arr_free s1 j (by omega)
      rw [← hG] at c0 c1
      have HE := Lib.hid (show reverseLoop (i + 1) (j - 1) (swp dk i j) = reverseRange d a b from by rw [← hO]; conv => rhs; unfold reverseLoop; rw [if_pos hij])
      clear hO s1 hsk hG
      go_wp2_with fail
      go_region
      all_goals go_wp2_with fail
      go_roundw
      case rel =>
        have hz := HSK.out
        refine ⟨i + 1, j - 1, swp dk i j, by congr 1, by congr 1; omega, by omega, by omega, by rw [size_swp]; exact HSK.out, HE.out, ?_⟩
        rw [HG.out, HG.out]
        exact arr_swp (by omega) (by omega) S1.out
      case measure => (simp [intOf] <;> omega)
    · have hijI : ¬ (i : Int) < (j : Int) := by omega
      have HE := Lib.hid (show dk = reverseRange d a b from by rw [← hO]; unfold reverseLoop; rw [if_neg hij])
      clear hO s1 hsk
      go_wp2_with fail
      go_end0
      exact ⟨rfl, by rw [← HE.out]; exact S1.out⟩
/-! ### the insertion sort that gives up -/
theorem pi_short {lt : UInt8 → UInt8 → Bool} {d : Array UInt8} {a b : Nat} (h : b - a < 50) : partialInsertionSort lt d a b = (d, decide (scanSorted lt d b (a + 1) = b)) := by
  show partialIns lt a b (4 + 1) (a + 1) d = _
  unfold partialIns
  by_cases e : scanSorted lt d b (a + 1) = b
  · simp [e]
  · simp [e, h]
set_option maxRecDepth 100000 in
set_option maxHeartbeats 4000000 in
theorem pins_calls (g n c a b : Nat) (d : Array UInt8) (X : List Value) (hn : d.size = n) (hs : n ≤ 49) (hab : a < b) (hb : b ≤ n) (w : World) (s : St B w0 w (arr g d X * R)) :
    Calls Try.prog 82 #[.slice (some ⟨g, 0, none⟩) n c, .int .i64 a, .int .i64 b] w fun e w' => e = .returned (.bool (partialInsertionSort ltU d a b).2) ∧ (partialInsertionSort ltU d a b).1 = d ∧ St B w0 w' (arr g d X * R) := by
  have hp := pi_short (lt := ltU) (d := d) (show b - a < 50 by omega)
  rw [hp]
  have HP := Lib.hid hp
  obtain ⟨G, hG⟩ : ∃ G : Nat → UInt8, ∀ t, G t = d[t]! := ⟨fun t => d[t]!, fun _ => rfl⟩
  have HG := Lib.hid hG
  have HF := Lib.hid (fun w' (s : St B w0 w' (arr g d X * R)) t (ht : t < n) => show w'.cell? ⟨g, t, none⟩ = some (.int .u8 ((G t).toNat : Int)) from by rw [hG]; exact arr_fam s t (by omega))
  have S := Lib.hid s
  have Hn := Lib.hid hn
  clear s hn
  clear hp hG
  go_enter Try.func82, Try.ntmps82
  go_wp2_with fail
  go_loopw [7, 8] (fun v7 v8 wr => v7 = .int .i64 ((a : Int) + 1) ∧ v8 = .int .i64 0 ∧ St B w0 wr (arr g d X * R)) (fun _ _ _ => 1)
  case atStart => exact ⟨rfl, rfl, S.out⟩
  case round =>
    obtain ⟨rfl, rfl, s1⟩ := hrel
    have S1 := Lib.hid s1
    clear S s1
    go_wp2_with fail
    go_loopw [7] (fun vi wr => ∃ (i : Nat), vi = .int .i64 i ∧ a < i ∧ i ≤ b ∧ scanSorted ltU d b i = scanSorted ltU d b (a + 1) ∧ St B w0 wr (arr g d X * R)) (fun vi _ => b - (intOf vi).toNat)
    case atStart => exact ⟨a + 1, by congr 1, by omega, by omega, rfl, S1.out⟩
    case round =>
      obtain ⟨i, rfl, hai, hib, hO, s2⟩ := hrel
      clear S1
      have S2 := Lib.hid s2
      by_cases hlt : i < b
      · have hltI : (i : Int) < (b : Int) := by omega
        have c0 := HF.out _ s2 i (by omega)
        have c1 := HF.out _ s2 (i - 1) (by omega)
        cases hl : ltU (G i) (G (i - 1)) with
        | true =>
          have hq : scanSorted ltU d b (a + 1) = i := by
            rw [← hO]; unfold scanSorted; rw [if_neg (by rw [← HG.out, ← HG.out, hl]; simp)]
          have hne : ((i : Int) == (b : Int)) = false := by simp; omega
          have hlen : (b : Int) - (a : Int) < 50 := by omega
          have HQ := Lib.hid hq
          clear hO s2 hq
          go_wp2_with fail
          go_quiet (first | (go_at_call 83; refine Calls.quiet_of_same (less_calls _ _ _)))
          go_wp2_with fail
          go_ret
          exact ⟨by rw [HQ.out]; simp; omega, trivial, S2.out.drewN _⟩
        | false =>
          have HQ := Lib.hid (show scanSorted ltU d b (i + 1) = scanSorted ltU d b (a + 1) from by
            rw [← hO]; conv => rhs; unfold scanSorted; rw [if_pos (by rw [← HG.out, ← HG.out, hl]; simpa using hlt)])
          clear hO s2
          go_wp2_with fail
          go_quiet (first | (go_at_call 83; refine Calls.quiet_of_same (less_calls _ _ _)))
          go_wp2_with fail
          go_roundw
          case rel => exact ⟨i + 1, by congr 1, by omega, by omega, HQ.out, S2.out.drewN _⟩
          case measure => (simp [intOf] <;> omega)
      · obtain rfl : i = b := by omega
        have hq : scanSorted ltU d i (a + 1) = i := by
          rw [← hO]; unfold scanSorted; rw [if_neg (by simp)]
        have hltI : decide ((i : Int) < (i : Int)) = false := by simp
        have HQ := Lib.hid hq
        clear hO s2 hq hlt
        go_wp2_with fail
        go_quiet (first | (go_at_call 83; refine Calls.quiet_of_same (less_calls _ _ _)))
        go_wp2_with fail
        go_ret
        exact ⟨by rw [HQ.out]; simp, trivial, S2.out.drewN _⟩
end
end Go.Proofs.Ytjnfhppjkadlpaa.SrA

set_option linter.unusedSimpArgs false
set_option linter.unusedVariables false
namespace Go.Proofs.Ytjnfhppjkadlpaa.SrA
open Go Go.RowKit Go.Sort Go.Proofs.Ytjnfhppjkadlpaa Go.Proofs.Ytjnfhppjkadlpaa.Sp
section
variable {α : Type} [Inhabited α]
theorem su_go {p : α → Bool} {d : Array α} {j i : Nat} (h : i ≤ j) (hp : p d[i]! = true) : scanUp p d j i = scanUp p d j (i + 1) := by
  conv => lhs; unfold scanUp
  rw [if_pos (by simp [h, hp])]
theorem su_end {p : α → Bool} {d : Array α} {j i : Nat} (h : ¬ i ≤ j ∨ p d[i]! = false) : scanUp p d j i = i := by
  unfold scanUp
  refine if_neg ?_
  rcases h with h | h
  · simp [h]
  · simp [h]
theorem sn_go {p : α → Bool} {d : Array α} {j i : Nat} (h : i ≤ j) (h0 : 0 < j) (hp : p d[j]! = true) : scanDown p d i j = scanDown p d i (j - 1) := by
  obtain ⟨k, rfl⟩ : ∃ k, j = k + 1 := ⟨j - 1, by omega⟩
  conv => lhs; unfold scanDown
  rw [if_pos (by simp [h, hp])]
  rfl
theorem sn_end {p : α → Bool} {d : Array α} {j i : Nat} (h : ¬ i ≤ j ∨ p d[j]! = false) : scanDown p d i j = j := by
  cases j with
  | zero => rfl
  | succ k =>
    unfold scanDown
    refine if_neg ?_
    rcases h with h | h
    · simp; intro; omega
    · simp [h]
end
/-- A round of a scan upward that is at its end. -/
def SU (p : UInt8 → Bool) (d : Array UInt8) (j i i2 : Nat) : Prop := i2 = scanUp p d j i ∧ i ≤ i2 ∧ i2 ≤ j + 1
def SD (p : UInt8 → Bool) (d : Array UInt8) (i j j2 : Nat) : Prop := j2 = scanDown p d i j ∧ j2 ≤ j ∧ i ≤ j2 + 1
theorem su_sd {p q : UInt8 → Bool} {d : Array UInt8} {i j i2 j2 : Nat} (hq : ∀ x, q x = !p x) (h1 : SU p d j i i2) (h2 : SD q d i2 j j2) (h0 : 0 < i) (hle : i2 ≤ j2) : i2 < j2 := by
  obtain ⟨e1, g1, g2⟩ := h1
  obtain ⟨e2, g3, g4⟩ := h2
  have k1 := (scanUp_spec p d j _ i rfl).2.2.2
  have k2 := (scanDown_spec q d i2 j).2.2.2
  rw [← e1] at k1
  rw [← e2] at k2
  have k3 := k1 (by omega)
  have k4 := k2 hle (by omega)
  by_cases e : i2 = j2
  · rw [← e, hq, k3] at k4
    cases k4
  · omega
theorem pl_step (lt : UInt8 → UInt8 → Bool) {a i j i2 j2 : Nat} {d : Array UInt8} (h1 : SU (fun x => lt x d[a]!) d j i i2) (h2 : SD (fun x => !lt x d[a]!) d i2 j j2) :
    partLoop lt a i j d = if i2 > j2 then (j2, d) else partLoop lt a (i2 + 1) (j2 - 1) (swp d i2 j2) := by
  rw [partLoop_eq]
  simp only [← h1.1, ← h2.1]
theorem pt_eq (lt : UInt8 → UInt8 → Bool) {a b pivot i2 j2 : Nat} {d : Array UInt8} (h1 : SU (fun x => lt x (swp d a pivot)[a]!) (swp d a pivot) (b - 1) (a + 1) i2) (h2 : SD (fun x => !lt x (swp d a pivot)[a]!) (swp d a pivot) i2 (b - 1) j2) :
    partition lt d a b pivot = if i2 > j2 then (j2, true, swp (swp d a pivot) j2 a) else ((partLoop lt a (i2 + 1) (j2 - 1) (swp (swp d a pivot) i2 j2)).1, false, swp (partLoop lt a (i2 + 1) (j2 - 1) (swp (swp d a pivot) i2 j2)).2 (partLoop lt a (i2 + 1) (j2 - 1) (swp (swp d a pivot) i2 j2)).1 a) := by
  unfold partition
  simp only [← h1.1, ← h2.1]
section
variable {B : Nat} {w0 : World} {R : HP}
set_option maxRecDepth 100000 in
set_option maxHeartbeats 16000000 in
theorem part_calls (g n c a b pivot : Nat) (d : Array UInt8) (X : List Value) (hn : d.size = n) (hs : n ≤ 1000000) (hap : a ≤ pivot) (hpb : pivot < b) (hb : b ≤ n) (w : World) (s : St B w0 w (arr g d X * R)) :
    Calls Try.prog 85 #[.slice (some ⟨g, 0, none⟩) n c, .int .i64 a, .int .i64 b, .int .i64 pivot] w fun e w' => e = .returned (.tuple #[.int .i64 (partition ltU d a b pivot).1, .bool (partition ltU d a b pivot).2.1]) ∧ St B w0 w' (arr g (partition ltU d a b pivot).2.2 X * R) := by
  have hsz : (swp d a pivot).size = n := by rw [size_swp]; exact hn
  have HPD := Lib.hid (fun i2 j2 h1 h2 => pt_eq (a := a) (b := b) (pivot := pivot) (i2 := i2) (j2 := j2) (d := d) ltU h1 h2)
  have HSZ := Lib.hid hsz
  have S := Lib.hid s
  have Hn := Lib.hid hn
  clear s hn
  clear hsz
  go_enter Try.func85, Try.ntmps85
  go_upto_region 1 with fail
  go_cut [] from 12 to 25 (fun wx => St B w0 wx (arr g (swp d a pivot) X * R))
  case first =>
    have s7 := S.out
    have hz := Hn.out
    obtain ⟨G7, hG7⟩ : ∃ G : Nat → UInt8, ∀ t, G t = (d)[t]! := ⟨fun t => (d)[t]!, fun _ => rfl⟩
    have c0 := arr_fam s7 a (by omega)
    have c1 := arr_fam s7 pivot (by omega)
    have f0 := arr_free s7 a (by omega)
    have f1 := arr_free s7 pivot (by omega)
    rw [← hG7] at c0 c1
    have HG7 := Lib.hid hG7
    have HB7 := Lib.hid (show a < (d).size ∧ pivot < (d).size from ⟨by omega, by omega⟩)
    by_cases heq : a = pivot
    · clear s7 hz hG7
      first
        | (exfalso; omega)
        | (subst heq
           go_region
           all_goals go_wp2_with fail
           go_meet
           rw [HG7.out]
           exact arr_swp HB7.out.1 HB7.out.2 S.out)
    · clear s7 hz hG7
      go_region
      all_goals go_wp2_with fail
      go_meet
      rw [HG7.out, HG7.out]
      exact arr_swp HB7.out.1 HB7.out.2 S.out
  have S1 := Lib.hid hcut
  clear hcut S
  generalize hd1 : swp d a pivot = d1 at *
  have HD1 := Lib.hid hd1
  clear hd1
  obtain ⟨G1, hG1⟩ : ∃ G : Nat → UInt8, ∀ t, G t = (d1)[t]! := ⟨fun t => (d1)[t]!, fun _ => rfl⟩
  have HG1 := Lib.hid hG1
  have HF1 := Lib.hid (fun w' (s : St B w0 w' (arr g (d1) X * R)) t (ht : t < n) => show w'.cell? ⟨g, t, none⟩ = some (.int .u8 ((G1 t).toNat : Int)) from by rw [hG1]; exact arr_fam s t (by have := HSZ.out; omega))
  clear hG1
  go_upto_block 0 with fail
  go_cut [10] from 30 to 45 (fun vi wx => ∃ i2 : Nat, vi = .int .i64 i2 ∧ SU (fun x => ltU x d1[a]!) d1 (b - 1) (a + 1) i2 ∧ St B w0 wx (arr g d1 X * R))
  case first =>
    go_wp2_with fail
    go_loopw [10] (fun vi wr => ∃ i' : Nat, vi = .int .i64 i' ∧ (a + 1) ≤ i' ∧ i' ≤ (b - 1) + 1 ∧ scanUp (fun x => ltU x d1[a]!) d1 (b - 1) i' = scanUp (fun x => ltU x d1[a]!) d1 (b - 1) (a + 1) ∧ St B w0 wr (arr g d1 X * R)) (fun vi _ => (b - 1) + 1 - (intOf vi).toNat)
    case atStart => exact ⟨(a + 1), by first | rfl | (congr 1 <;> omega), Nat.le_refl _, by omega, rfl, S1.out⟩
    case round =>
      obtain ⟨i', rfl, h1, h2, hO, s2⟩ := hrel
      clear S1
      have S2 := Lib.hid s2
      by_cases hle : i' ≤ (b - 1)
      · have hleI : (i' : Int) ≤ ((b : Int) - 1) := by omega
        have c0 := HF1.out _ s2 i' (by omega)
        have c1 := HF1.out _ s2 a (by omega)
        cases hl : ltU (G1 i') (G1 a) with
        | true =>
          have HE := Lib.hid ((su_go (p := (fun x => ltU x d1[a]!)) hle (by have q := hl; rw [HG1.out, HG1.out] at q; simpa using q)).symm.trans hO)
          clear hO s2
          go_wp2_with fail
          go_quiet (first | (go_at_call 83; refine Calls.quiet_of_same (less_calls _ _ _)))
          go_wp2_with fail
          go_roundw
          case rel => exact ⟨i' + 1, by go_num, by omega, by omega, HE.out, S2.out.drewN _⟩
          case measure => (simp [intOf] <;> omega)
        | false =>
          have HE := Lib.hid ((su_end (p := (fun x => ltU x d1[a]!)) (.inr (by have q := hl; rw [HG1.out, HG1.out] at q; simpa using q))).symm.trans hO)
          clear hO s2
          go_wp2_with fail
          go_quiet (first | (go_at_call 83; refine Calls.quiet_of_same (less_calls _ _ _)))
          go_wp2_with fail
          go_meet
          exact ⟨i', rfl, ⟨HE.out, h1, h2⟩, S2.out.drewN _⟩
      · have hleI : decide ((i' : Int) ≤ ((b : Int) - 1)) = false := decide_eq_false (by omega)
        have HE := Lib.hid ((su_end (p := (fun x => ltU x d1[a]!)) (.inl hle)).symm.trans hO)
        clear hO s2
        go_wp2_with fail
        go_quiet (first | (go_at_call 83; refine Calls.quiet_of_same (less_calls _ _ _)))
        go_wp2_with fail
        go_meet
        exact ⟨i', rfl, ⟨HE.out, h1, h2⟩, S2.out.drewN _⟩
  obtain ⟨i2, rfl, hsu, hcut⟩ := hcut
  have HU := Lib.hid hsu
  have S2 := Lib.hid hcut
  clear hcut hsu S1
  have hib : i2 ≤ b - 1 + 1 := HU.out.2.2
  have hia : a + 1 ≤ i2 := HU.out.2.1
  go_upto_block 2 with fail
  go_cut [11] from 46 to 62 (fun vj wx => ∃ j2 : Nat, vj = .int .i64 j2 ∧ SD (fun x => !ltU x d1[a]!) d1 i2 (b - 1) j2 ∧ St B w0 wx (arr g d1 X * R))
  case first =>
    go_wp2_with fail
    go_loopw [11] (fun vj wr => ∃ j' : Nat, vj = .int .i64 j' ∧ j' ≤ (b - 1) ∧ i2 ≤ j' + 1 ∧ scanDown (fun x => !ltU x d1[a]!) d1 i2 j' = scanDown (fun x => !ltU x d1[a]!) d1 i2 (b - 1) ∧ St B w0 wr (arr g d1 X * R)) (fun vj _ => (intOf vj).toNat)
    case atStart => exact ⟨(b - 1), by first | rfl | (congr 1 <;> omega), Nat.le_refl _, by omega, rfl, S2.out⟩
    case round =>
      obtain ⟨j', rfl, h1, h2, hO, s2⟩ := hrel
      clear S2
      have S2 := Lib.hid s2
      by_cases hle : i2 ≤ j'
      · have hleI : (i2 : Int) ≤ (j' : Int) := by omega
        have c0 := HF1.out _ s2 j' (by omega)
        have c1 := HF1.out _ s2 a (by omega)
        cases hl : ltU (G1 j') (G1 a) with
        | false =>
          have HE := Lib.hid ((sn_go (p := (fun x => !ltU x d1[a]!)) hle (by omega) (by have q := hl; rw [HG1.out, HG1.out] at q; simpa using q)).symm.trans hO)
          clear hO s2
          go_wp2_with fail
          go_quiet (first | (go_at_call 83; refine Calls.quiet_of_same (less_calls _ _ _)))
          go_wp2_with fail
          go_roundw
          case rel => exact ⟨j' - 1, by congr 1; omega, by omega, by omega, HE.out, S2.out.drewN _⟩
          case measure => (simp [intOf] <;> omega)
        | true =>
          have HE := Lib.hid ((sn_end (p := (fun x => !ltU x d1[a]!)) (.inr (by have q := hl; rw [HG1.out, HG1.out] at q; simpa using q))).symm.trans hO)
          clear hO s2
          go_wp2_with fail
          go_quiet (first | (go_at_call 83; refine Calls.quiet_of_same (less_calls _ _ _)))
          go_wp2_with fail
          go_meet
          exact ⟨j', rfl, ⟨HE.out, h1, h2⟩, S2.out.drewN _⟩
      · have hleI : decide ((i2 : Int) ≤ (j' : Int)) = false := decide_eq_false (by omega)
        have HE := Lib.hid ((sn_end (p := (fun x => !ltU x d1[a]!)) (.inl hle)).symm.trans hO)
        clear hO s2
        go_wp2_with fail
        go_quiet (first | (go_at_call 83; refine Calls.quiet_of_same (less_calls _ _ _)))
        go_wp2_with fail
        go_meet
        exact ⟨j', rfl, ⟨HE.out, h1, h2⟩, S2.out.drewN _⟩
  obtain ⟨j2, rfl, hsd, hcut⟩ := hcut
  have HD := Lib.hid hsd
  have S3 := Lib.hid hcut
  clear hcut hsd S2
  have hpt := HPD.out i2 j2 HU.out HD.out
  have hne := su_sd (fun _ => rfl) HU.out HD.out (by omega)
  have HB := Lib.hid (show a < i2 ∧ i2 ≤ b ∧ j2 < b ∧ i2 ≤ j2 + 1 from by have h1 := HU.out.2; have h2 := HD.out.2; omega)
  clear HPD HU HD HF1 HG1
  by_cases hij : j2 < i2
  · have hijI : (j2 : Int) < (i2 : Int) := by omega
    rw [if_pos hij] at hpt
    clear hne
    have HP := Lib.hid hpt
    have hbb := HB.out
    clear hpt
    go_wp2_with fail
    go_upto_region 8 with fail
    go_cut [] from 66 to 79 (fun wx => St B w0 wx (arr g (swp d1 j2 a) X * R))
    case first =>
      have s7 := S3.out
      have hz := HSZ.out
      obtain ⟨G7, hG7⟩ : ∃ G : Nat → UInt8, ∀ t, G t = (d1)[t]! := ⟨fun t => (d1)[t]!, fun _ => rfl⟩
      have c0 := arr_fam s7 j2 (by omega)
      have c1 := arr_fam s7 a (by omega)
      have f0 := arr_free s7 j2 (by omega)
      have f1 := arr_free s7 a (by omega)
      rw [← hG7] at c0 c1
      have HG7 := Lib.hid hG7
      have HB7 := Lib.hid (show j2 < (d1).size ∧ a < (d1).size from ⟨by omega, by omega⟩)
      by_cases heq : j2 = a
      · clear s7 hz hG7
        first
          | (exfalso; omega)
          | (subst heq
             go_region
             all_goals go_wp2_with fail
             go_meet
             rw [HG7.out]
             exact arr_swp HB7.out.1 HB7.out.2 S3.out)
      · clear s7 hz hG7
        go_region
        all_goals go_wp2_with fail
        go_meet
        rw [HG7.out, HG7.out]
        exact arr_swp HB7.out.1 HB7.out.2 S3.out
    have S4 := Lib.hid hcut
    clear hcut S3
    go_wp2_with fail
    go_ret2
    rw [HP.out]
    exact ⟨rfl, S4.out⟩
  · have hijI : ¬ (j2 : Int) < (i2 : Int) := by omega
    rw [if_neg (by omega)] at hpt
    have hne2 := hne (by omega)
    clear hne
    have HP := Lib.hid hpt
    have hbb := HB.out
    have hsz2 : (swp d1 i2 j2).size = n := by rw [size_swp]; exact HSZ.out
    have HSZ2 := Lib.hid hsz2
    clear hpt hsz2
    go_wp2_with fail
    go_upto_region 10 with fail
    go_cut [] from 81 to 94 (fun wx => St B w0 wx (arr g (swp d1 i2 j2) X * R))
    case first =>
      have s7 := S3.out
      have hz := HSZ.out
      obtain ⟨G7, hG7⟩ : ∃ G : Nat → UInt8, ∀ t, G t = (d1)[t]! := ⟨fun t => (d1)[t]!, fun _ => rfl⟩
      have c0 := arr_fam s7 i2 (by omega)
      have c1 := arr_fam s7 j2 (by omega)
      have f0 := arr_free s7 i2 (by omega)
      have f1 := arr_free s7 j2 (by omega)
      rw [← hG7] at c0 c1
      have HG7 := Lib.hid hG7
      have HB7 := Lib.hid (show i2 < (d1).size ∧ j2 < (d1).size from ⟨by omega, by omega⟩)
      by_cases heq : i2 = j2
      · clear s7 hz hG7
        first
          | (exfalso; omega)
          | (subst heq
             go_region
             all_goals go_wp2_with fail
             go_meet
             rw [HG7.out]
             exact arr_swp HB7.out.1 HB7.out.2 S3.out)
      · clear s7 hz hG7
        go_region
        all_goals go_wp2_with fail
        go_meet
        rw [HG7.out, HG7.out]
        exact arr_swp HB7.out.1 HB7.out.2 S3.out
    have S4 := Lib.hid hcut
    clear hcut S3
    generalize hd2 : swp d1 i2 j2 = d2 at *
    clear hd2
    go_wp2_with fail
    generalize hr : partLoop ltU a (i2 + 1) (j2 - 1) d2 = r at *
    have HR := Lib.hid hr
    clear hr
    go_loopw [10, 11] (fun vi vj wr => ∃ (i j : Nat) (dk : Array UInt8), vi = .int .i64 i ∧ vj = .int .i64 j ∧ a < i ∧ i ≤ j + 1 ∧ j < b ∧ dk.size = n ∧ partLoop ltU a i j dk = r ∧ St B w0 wr (arr g dk X * R)) (fun vi vj _ => (intOf vj).toNat + 1 - (intOf vi).toNat)
    case atStart => exact ⟨i2 + 1, j2 - 1, d2, by congr 1, by congr 1; omega, by omega, by omega, by omega, HSZ2.out, HR.out, S4.out⟩
    case round =>
      obtain ⟨i, j, dk, rfl, rfl, hai, hij2, hjb, hsk, hO, s5⟩ := hrel
      have S5 := Lib.hid s5
      have HSK := Lib.hid hsk
      have HO := Lib.hid hO
      clear S4 s5 hsk hO HSZ2 HR
      obtain ⟨G2, hG2⟩ : ∃ G : Nat → UInt8, ∀ t, G t = (dk)[t]! := ⟨fun t => (dk)[t]!, fun _ => rfl⟩
      have HG2 := Lib.hid hG2
      have HF2 := Lib.hid (fun w' (s : St B w0 w' (arr g (dk) X * R)) t (ht : t < n) => show w'.cell? ⟨g, t, none⟩ = some (.int .u8 ((G2 t).toNat : Int)) from by rw [hG2]; exact arr_fam s t (by have := HSK.out; omega))
      clear hG2
      go_upto_block 6 with fail
      go_cut [10] from 99 to 114 (fun vi wx => ∃ i2 : Nat, vi = .int .i64 i2 ∧ SU (fun x => ltU x dk[a]!) dk j i i2 ∧ St B w0 wx (arr g dk X * R))
      case first =>
        go_wp2_with fail
        go_loopw [10] (fun vi wr => ∃ i' : Nat, vi = .int .i64 i' ∧ i ≤ i' ∧ i' ≤ j + 1 ∧ scanUp (fun x => ltU x dk[a]!) dk j i' = scanUp (fun x => ltU x dk[a]!) dk j i ∧ St B w0 wr (arr g dk X * R)) (fun vi _ => j + 1 - (intOf vi).toNat)
        case atStart => exact ⟨i, by first | rfl | (congr 1 <;> omega), Nat.le_refl _, by omega, rfl, S5.out⟩
        case round =>
          obtain ⟨i', rfl, h1, h2, hO, s2⟩ := hrel
          clear S5
          have S2 := Lib.hid s2
          by_cases hle : i' ≤ j
          · have hleI : (i' : Int) ≤ (j : Int) := by omega
            have c0 := HF2.out _ s2 i' (by omega)
            have c1 := HF2.out _ s2 a (by omega)
            cases hl : ltU (G2 i') (G2 a) with
            | true =>
              have HE := Lib.hid ((su_go (p := (fun x => ltU x dk[a]!)) hle (by have q := hl; rw [HG2.out, HG2.out] at q; simpa using q)).symm.trans hO)
              clear hO s2
              go_wp2_with fail
              go_quiet (first | (go_at_call 83; refine Calls.quiet_of_same (less_calls _ _ _)))
              go_wp2_with fail
              go_roundw
              case rel => exact ⟨i' + 1, by go_num, by omega, by omega, HE.out, S2.out.drewN _⟩
              case measure => (simp [intOf] <;> omega)
            | false =>
              have HE := Lib.hid ((su_end (p := (fun x => ltU x dk[a]!)) (.inr (by have q := hl; rw [HG2.out, HG2.out] at q; simpa using q))).symm.trans hO)
              clear hO s2
              go_wp2_with fail
              go_quiet (first | (go_at_call 83; refine Calls.quiet_of_same (less_calls _ _ _)))
              go_wp2_with fail
              go_meet
              exact ⟨i', rfl, ⟨HE.out, h1, h2⟩, S2.out.drewN _⟩
          · have hleI : decide ((i' : Int) ≤ (j : Int)) = false := decide_eq_false (by omega)
            have HE := Lib.hid ((su_end (p := (fun x => ltU x dk[a]!)) (.inl hle)).symm.trans hO)
            clear hO s2
            go_wp2_with fail
            go_quiet (first | (go_at_call 83; refine Calls.quiet_of_same (less_calls _ _ _)))
            go_wp2_with fail
            go_meet
            exact ⟨i', rfl, ⟨HE.out, h1, h2⟩, S2.out.drewN _⟩
      obtain ⟨i3, rfl, hsu, hcut⟩ := hcut
      have HU3 := Lib.hid hsu
      have S6 := Lib.hid hcut
      clear hcut hsu S5
      have hib : i3 ≤ j + 1 := HU3.out.2.2
      have hia : i ≤ i3 := HU3.out.2.1
      go_upto_block 8 with fail
      go_cut [11] from 115 to 131 (fun vj wx => ∃ j2 : Nat, vj = .int .i64 j2 ∧ SD (fun x => !ltU x dk[a]!) dk i3 j j2 ∧ St B w0 wx (arr g dk X * R))
      case first =>
        go_wp2_with fail
        go_loopw [11] (fun vj wr => ∃ j' : Nat, vj = .int .i64 j' ∧ j' ≤ j ∧ i3 ≤ j' + 1 ∧ scanDown (fun x => !ltU x dk[a]!) dk i3 j' = scanDown (fun x => !ltU x dk[a]!) dk i3 j ∧ St B w0 wr (arr g dk X * R)) (fun vj _ => (intOf vj).toNat)
        case atStart => exact ⟨j, by first | rfl | (congr 1 <;> omega), Nat.le_refl _, by omega, rfl, S6.out⟩
        case round =>
          obtain ⟨j', rfl, h1, h2, hO, s2⟩ := hrel
          clear S6
          have S2 := Lib.hid s2
          by_cases hle : i3 ≤ j'
          · have hleI : (i3 : Int) ≤ (j' : Int) := by omega
            have c0 := HF2.out _ s2 j' (by omega)
            have c1 := HF2.out _ s2 a (by omega)
            cases hl : ltU (G2 j') (G2 a) with
            | false =>
              have HE := Lib.hid ((sn_go (p := (fun x => !ltU x dk[a]!)) hle (by omega) (by have q := hl; rw [HG2.out, HG2.out] at q; simpa using q)).symm.trans hO)
              clear hO s2
              go_wp2_with fail
              go_quiet (first | (go_at_call 83; refine Calls.quiet_of_same (less_calls _ _ _)))
              go_wp2_with fail
              go_roundw
              case rel => exact ⟨j' - 1, by congr 1; omega, by omega, by omega, HE.out, S2.out.drewN _⟩
              case measure => (simp [intOf] <;> omega)
            | true =>
              have HE := Lib.hid ((sn_end (p := (fun x => !ltU x dk[a]!)) (.inr (by have q := hl; rw [HG2.out, HG2.out] at q; simpa using q))).symm.trans hO)
              clear hO s2
              go_wp2_with fail
              go_quiet (first | (go_at_call 83; refine Calls.quiet_of_same (less_calls _ _ _)))
              go_wp2_with fail
              go_meet
              exact ⟨j', rfl, ⟨HE.out, h1, h2⟩, S2.out.drewN _⟩
          · have hleI : decide ((i3 : Int) ≤ (j' : Int)) = false := decide_eq_false (by omega)
            have HE := Lib.hid ((sn_end (p := (fun x => !ltU x dk[a]!)) (.inl hle)).symm.trans hO)
            clear hO s2
            go_wp2_with fail
            go_quiet (first | (go_at_call 83; refine Calls.quiet_of_same (less_calls _ _ _)))
            go_wp2_with fail
            go_meet
            exact ⟨j', rfl, ⟨HE.out, h1, h2⟩, S2.out.drewN _⟩
      obtain ⟨j3, rfl, hsd, hcut⟩ := hcut
      have HD3 := Lib.hid hsd
      have S7 := Lib.hid hcut
      clear hcut hsd S6
      have hstep := pl_step ltU HU3.out HD3.out
      have hne := su_sd (fun _ => rfl) HU3.out HD3.out (by omega)
      have hjj : j3 ≤ j ∧ i3 ≤ j3 + 1 := HD3.out.2
      rw [HO.out] at hstep
      clear HU3 HD3 HF2 HG2 HO
      by_cases hx : j3 < i3
      · have hxI : (j3 : Int) < (i3 : Int) := by omega
        rw [if_pos hx] at hstep
        clear hne
        subst hstep
        go_wp2_with fail
        go_upto_region 21 with fail
        go_cut [] from 153 to 166 (fun wx => St B w0 wx (arr g (swp dk j3 a) X * R))
        case first =>
          have s7 := S7.out
          have hz := HSK.out
          obtain ⟨G7, hG7⟩ : ∃ G : Nat → UInt8, ∀ t, G t = (dk)[t]! := ⟨fun t => (dk)[t]!, fun _ => rfl⟩
          have c0 := arr_fam s7 j3 (by omega)
          have c1 := arr_fam s7 a (by omega)
          have f0 := arr_free s7 j3 (by omega)
          have f1 := arr_free s7 a (by omega)
          rw [← hG7] at c0 c1
          have HG7 := Lib.hid hG7
          have HB7 := Lib.hid (show j3 < (dk).size ∧ a < (dk).size from ⟨by omega, by omega⟩)
          by_cases heq : j3 = a
          · clear s7 hz hG7
            first
              | (exfalso; omega)
              | (subst heq
                 go_region
                 all_goals go_wp2_with fail
                 go_meet
                 rw [HG7.out]
                 exact arr_swp HB7.out.1 HB7.out.2 S7.out)
          · clear s7 hz hG7
            go_region
            all_goals go_wp2_with fail
            go_meet
            rw [HG7.out, HG7.out]
            exact arr_swp HB7.out.1 HB7.out.2 S7.out
        have S8 := Lib.hid hcut
        clear hcut S7
        go_wp2_with fail
        go_ret2
        rw [HP.out]
        exact ⟨rfl, S8.out⟩
      · have hxI : ¬ (j3 : Int) < (i3 : Int) := by omega
        rw [if_neg (by omega)] at hstep
        have hne3 := hne (by omega)
        clear hne
        have HST := Lib.hid hstep.symm
        clear hstep
        go_wp2_with fail
        go_upto_region 18 with fail
        go_cut [] from 135 to 148 (fun wx => St B w0 wx (arr g (swp dk i3 j3) X * R))
        case first =>
          have s7 := S7.out
          have hz := HSK.out
          obtain ⟨G7, hG7⟩ : ∃ G : Nat → UInt8, ∀ t, G t = (dk)[t]! := ⟨fun t => (dk)[t]!, fun _ => rfl⟩
          have c0 := arr_fam s7 i3 (by omega)
          have c1 := arr_fam s7 j3 (by omega)
          have f0 := arr_free s7 i3 (by omega)
          have f1 := arr_free s7 j3 (by omega)
          rw [← hG7] at c0 c1
          have HG7 := Lib.hid hG7
          have HB7 := Lib.hid (show i3 < (dk).size ∧ j3 < (dk).size from ⟨by omega, by omega⟩)
          by_cases heq : i3 = j3
          · clear s7 hz hG7
            first
              | (exfalso; omega)
              | (subst heq
                 go_region
                 all_goals go_wp2_with fail
                 go_meet
                 rw [HG7.out]
                 exact arr_swp HB7.out.1 HB7.out.2 S7.out)
          · clear s7 hz hG7
            go_region
            all_goals go_wp2_with fail
            go_meet
            rw [HG7.out, HG7.out]
            exact arr_swp HB7.out.1 HB7.out.2 S7.out
        have S8 := Lib.hid hcut
        clear hcut S7
        go_wp2_with fail
        go_roundw
        case rel => exact ⟨i3 + 1, j3 - 1, _, by congr 1, by congr 1; omega, by omega, by omega, by omega, by rw [size_swp]; exact HSK.out, HST.out, S8.out⟩
        case measure => (simp [intOf] <;> omega)
theorem pe_step (lt : UInt8 → UInt8 → Bool) {a i j i2 j2 : Nat} {d : Array UInt8} (h1 : SU (fun x => !lt d[a]! x) d j i i2) (h2 : SD (fun x => lt d[a]! x) d i2 j j2) :
    partEqLoop lt a i j d = if i2 > j2 then (i2, d) else partEqLoop lt a (i2 + 1) (j2 - 1) (swp d i2 j2) := by
  rw [partEqLoop_eq]
  simp only [← h1.1, ← h2.1]
set_option maxRecDepth 100000 in
set_option maxHeartbeats 16000000 in
theorem parq_calls (g n c a b pivot : Nat) (d : Array UInt8) (X : List Value) (hn : d.size = n) (hs : n ≤ 1000000) (hap : a ≤ pivot) (hpb : pivot < b) (hb : b ≤ n) (w : World) (s : St B w0 w (arr g d X * R)) :
    Calls Try.prog 84 #[.slice (some ⟨g, 0, none⟩) n c, .int .i64 a, .int .i64 b, .int .i64 pivot] w fun e w' => e = .returned (.int .i64 (partitionEqual ltU d a b pivot).1) ∧ St B w0 w' (arr g (partitionEqual ltU d a b pivot).2 X * R) := by
  have hsz : (swp d a pivot).size = n := by rw [size_swp]; exact hn
  have HSZ := Lib.hid hsz
  have hr : partitionEqual ltU d a b pivot = partEqLoop ltU a (a + 1) (b - 1) (swp d a pivot) := rfl
  rw [hr]
  have S := Lib.hid s
  have Hn := Lib.hid hn
  clear s hn
  clear hsz hr
  go_enter Try.func84, Try.ntmps84
  go_upto_region 1 with fail
  go_cut [] from 11 to 24 (fun wx => St B w0 wx (arr g (swp d a pivot) X * R))
  case first =>
    have s7 := S.out
    have hz := Hn.out
    obtain ⟨G7, hG7⟩ : ∃ G : Nat → UInt8, ∀ t, G t = (d)[t]! := ⟨fun t => (d)[t]!, fun _ => rfl⟩
    have c0 := arr_fam s7 a (by omega)
    have c1 := arr_fam s7 pivot (by omega)
    have f0 := arr_free s7 a (by omega)
    have f1 := arr_free s7 pivot (by omega)
    rw [← hG7] at c0 c1
    have HG7 := Lib.hid hG7
    have HB7 := Lib.hid (show a < (d).size ∧ pivot < (d).size from ⟨by omega, by omega⟩)
    by_cases heq : a = pivot
    · clear s7 hz hG7
      first
        | (exfalso; omega)
        | (subst heq
           go_region
           all_goals go_wp2_with fail
           go_meet
           rw [HG7.out]
           exact arr_swp HB7.out.1 HB7.out.2 S.out)
    · clear s7 hz hG7
      go_region
      all_goals go_wp2_with fail
      go_meet
      rw [HG7.out, HG7.out]
      exact arr_swp HB7.out.1 HB7.out.2 S.out
  have S1 := Lib.hid hcut
  clear hcut S
  generalize hd1 : swp d a pivot = d1 at *
  have HD1 := Lib.hid hd1
  clear hd1
  go_wp2_with fail
  generalize hr : partEqLoop ltU a (a + 1) (b - 1) d1 = r at *
  have HR := Lib.hid hr
  have HR0 := Lib.hid hr
  clear hr
  go_loopw [9, 10] (fun vi vj wr => ∃ (i j : Nat) (dk : Array UInt8), vi = .int .i64 i ∧ vj = .int .i64 j ∧ a < i ∧ i ≤ j + 1 ∧ j < b ∧ dk.size = n ∧ partEqLoop ltU a i j dk = r ∧ St B w0 wr (arr g dk X * R)) (fun vi vj _ => (intOf vj).toNat + 1 - (intOf vi).toNat)
  case atStart => exact ⟨a + 1, b - 1, d1, by congr 1, by congr 1; omega, by omega, by omega, by omega, HSZ.out, HR.out, S1.out⟩
  case round =>
    obtain ⟨i, j, dk, rfl, rfl, hai, hij2, hjb, hsk, hO, s5⟩ := hrel
    have S5 := Lib.hid s5
    have HSK := Lib.hid hsk
    have HO := Lib.hid hO
    clear S1 s5 hsk hO HSZ HR
    obtain ⟨G2, hG2⟩ : ∃ G : Nat → UInt8, ∀ t, G t = (dk)[t]! := ⟨fun t => (dk)[t]!, fun _ => rfl⟩
    have HG2 := Lib.hid hG2
    have HF2 := Lib.hid (fun w' (s : St B w0 w' (arr g (dk) X * R)) t (ht : t < n) => show w'.cell? ⟨g, t, none⟩ = some (.int .u8 ((G2 t).toNat : Int)) from by rw [hG2]; exact arr_fam s t (by have := HSK.out; omega))
    clear hG2
    go_upto_block 2 with fail
    go_cut [9] from 29 to 45 (fun vi wx => ∃ i2 : Nat, vi = .int .i64 i2 ∧ SU (fun x => !ltU dk[a]! x) dk j i i2 ∧ St B w0 wx (arr g dk X * R))
    case first =>
      go_wp2_with fail
      go_loopw [9] (fun vi wr => ∃ i' : Nat, vi = .int .i64 i' ∧ i ≤ i' ∧ i' ≤ j + 1 ∧ scanUp (fun x => !ltU dk[a]! x) dk j i' = scanUp (fun x => !ltU dk[a]! x) dk j i ∧ St B w0 wr (arr g dk X * R)) (fun vi _ => j + 1 - (intOf vi).toNat)
      case atStart => exact ⟨i, by first | rfl | (congr 1 <;> omega), Nat.le_refl _, by omega, rfl, S5.out⟩
      case round =>
        obtain ⟨i', rfl, h1, h2, hO, s2⟩ := hrel
        clear S5
        have S2 := Lib.hid s2
        by_cases hle : i' ≤ j
        · have hleI : (i' : Int) ≤ (j : Int) := by omega
          have c0 := HF2.out _ s2 i' (by omega)
          have c1 := HF2.out _ s2 a (by omega)
          cases hl : ltU (G2 a) (G2 i') with
          | false =>
            have HE := Lib.hid ((su_go (p := (fun x => !ltU dk[a]! x)) hle (by have q := hl; rw [HG2.out, HG2.out] at q; simpa using q)).symm.trans hO)
            clear hO s2
            go_wp2_with fail
            go_quiet (first | (go_at_call 83; refine Calls.quiet_of_same (less_calls _ _ _)))
            go_wp2_with fail
            go_roundw
            case rel => exact ⟨i' + 1, by go_num, by omega, by omega, HE.out, S2.out.drewN _⟩
            case measure => (simp [intOf] <;> omega)
          | true =>
            have HE := Lib.hid ((su_end (p := (fun x => !ltU dk[a]! x)) (.inr (by have q := hl; rw [HG2.out, HG2.out] at q; simpa using q))).symm.trans hO)
            clear hO s2
            go_wp2_with fail
            go_quiet (first | (go_at_call 83; refine Calls.quiet_of_same (less_calls _ _ _)))
            go_wp2_with fail
            go_meet
            exact ⟨i', rfl, ⟨HE.out, h1, h2⟩, S2.out.drewN _⟩
        · have hleI : decide ((i' : Int) ≤ (j : Int)) = false := decide_eq_false (by omega)
          have HE := Lib.hid ((su_end (p := (fun x => !ltU dk[a]! x)) (.inl hle)).symm.trans hO)
          clear hO s2
          go_wp2_with fail
          go_quiet (first | (go_at_call 83; refine Calls.quiet_of_same (less_calls _ _ _)))
          go_wp2_with fail
          go_meet
          exact ⟨i', rfl, ⟨HE.out, h1, h2⟩, S2.out.drewN _⟩
    obtain ⟨i3, rfl, hsu, hcut⟩ := hcut
    have HU3 := Lib.hid hsu
    have S6 := Lib.hid hcut
    clear hcut hsu S5
    have hib : i3 ≤ j + 1 := HU3.out.2.2
    have hia : i ≤ i3 := HU3.out.2.1
    go_upto_block 4 with fail
    go_cut [10] from 46 to 61 (fun vj wx => ∃ j2 : Nat, vj = .int .i64 j2 ∧ SD (fun x => ltU dk[a]! x) dk i3 j j2 ∧ St B w0 wx (arr g dk X * R))
    case first =>
      go_wp2_with fail
      go_loopw [10] (fun vj wr => ∃ j' : Nat, vj = .int .i64 j' ∧ j' ≤ j ∧ i3 ≤ j' + 1 ∧ scanDown (fun x => ltU dk[a]! x) dk i3 j' = scanDown (fun x => ltU dk[a]! x) dk i3 j ∧ St B w0 wr (arr g dk X * R)) (fun vj _ => (intOf vj).toNat)
      case atStart => exact ⟨j, by first | rfl | (congr 1 <;> omega), Nat.le_refl _, by omega, rfl, S6.out⟩
      case round =>
        obtain ⟨j', rfl, h1, h2, hO, s2⟩ := hrel
        clear S6
        have S2 := Lib.hid s2
        by_cases hle : i3 ≤ j'
        · have hleI : (i3 : Int) ≤ (j' : Int) := by omega
          have c0 := HF2.out _ s2 j' (by omega)
          have c1 := HF2.out _ s2 a (by omega)
          cases hl : ltU (G2 a) (G2 j') with
          | true =>
            have HE := Lib.hid ((sn_go (p := (fun x => ltU dk[a]! x)) hle (by omega) (by have q := hl; rw [HG2.out, HG2.out] at q; simpa using q)).symm.trans hO)
            clear hO s2
            go_wp2_with fail
            go_quiet (first | (go_at_call 83; refine Calls.quiet_of_same (less_calls _ _ _)))
            go_wp2_with fail
            go_roundw
            case rel => exact ⟨j' - 1, by congr 1; omega, by omega, by omega, HE.out, S2.out.drewN _⟩
            case measure => (simp [intOf] <;> omega)
          | false =>
            have HE := Lib.hid ((sn_end (p := (fun x => ltU dk[a]! x)) (.inr (by have q := hl; rw [HG2.out, HG2.out] at q; simpa using q))).symm.trans hO)
            clear hO s2
            go_wp2_with fail
            go_quiet (first | (go_at_call 83; refine Calls.quiet_of_same (less_calls _ _ _)))
            go_wp2_with fail
            go_meet
            exact ⟨j', rfl, ⟨HE.out, h1, h2⟩, S2.out.drewN _⟩
        · have hleI : decide ((i3 : Int) ≤ (j' : Int)) = false := decide_eq_false (by omega)
          have HE := Lib.hid ((sn_end (p := (fun x => ltU dk[a]! x)) (.inl hle)).symm.trans hO)
          clear hO s2
          go_wp2_with fail
          go_quiet (first | (go_at_call 83; refine Calls.quiet_of_same (less_calls _ _ _)))
          go_wp2_with fail
          go_meet
          exact ⟨j', rfl, ⟨HE.out, h1, h2⟩, S2.out.drewN _⟩
    obtain ⟨j3, rfl, hsd, hcut⟩ := hcut
    have HD3 := Lib.hid hsd
    have S7 := Lib.hid hcut
    clear hcut hsd S6
    have hstep := pe_step ltU HU3.out HD3.out
    have hne := su_sd (fun _ => by simp) HU3.out HD3.out (by omega)
    have hjj : j3 ≤ j ∧ i3 ≤ j3 + 1 := HD3.out.2
    rw [HO.out] at hstep
    clear HU3 HD3 HF2 HG2 HO
    by_cases hx : j3 < i3
    · have hxI : (j3 : Int) < (i3 : Int) := by omega
      rw [if_pos hx] at hstep
      clear hne
      subst hstep
      go_wp2_with fail
      go_ret
      rw [HD1.out, HR0.out]
      exact ⟨rfl, S7.out⟩
    · have hxI : ¬ (j3 : Int) < (i3 : Int) := by omega
      rw [if_neg (by omega)] at hstep
      have hne3 := hne (by omega)
      clear hne
      have HST := Lib.hid hstep.symm
      clear hstep
      go_wp2_with fail
      go_upto_region 8 with fail
      go_cut [] from 65 to 78 (fun wx => St B w0 wx (arr g (swp dk i3 j3) X * R))
      case first =>
        have s7 := S7.out
        have hz := HSK.out
        obtain ⟨G7, hG7⟩ : ∃ G : Nat → UInt8, ∀ t, G t = (dk)[t]! := ⟨fun t => (dk)[t]!, fun _ => rfl⟩
        have c0 := arr_fam s7 i3 (by omega)
        have c1 := arr_fam s7 j3 (by omega)
        have f0 := arr_free s7 i3 (by omega)
        have f1 := arr_free s7 j3 (by omega)
        rw [← hG7] at c0 c1
        have HG7 := Lib.hid hG7
        have HB7 := Lib.hid (show i3 < (dk).size ∧ j3 < (dk).size from ⟨by omega, by omega⟩)
        by_cases heq : i3 = j3
        · clear s7 hz hG7
          first
            | (exfalso; omega)
            | (subst heq
               go_region
               all_goals go_wp2_with fail
               go_meet
               rw [HG7.out]
               exact arr_swp HB7.out.1 HB7.out.2 S7.out)
        · clear s7 hz hG7
          go_region
          all_goals go_wp2_with fail
          go_meet
          rw [HG7.out, HG7.out]
          exact arr_swp HB7.out.1 HB7.out.2 S7.out
      have S8 := Lib.hid hcut
      clear hcut S7
      go_wp2_with fail
      go_roundw
      case rel => exact ⟨i3 + 1, j3 - 1, _, by congr 1, by congr 1; omega, by omega, by omega, by omega, by rw [size_swp]; exact HSK.out, HST.out, S8.out⟩
      case measure => (simp [intOf] <;> omega)
end
end Go.Proofs.Ytjnfhppjkadlpaa.SrA

set_option linter.unusedSimpArgs false
set_option linter.unusedVariables false
namespace Go.Proofs.Ytjnfhppjkadlpaa.SrA
open Go Go.RowKit Go.Sort Go.Proofs.Ytjnfhppjkadlpaa Go.Proofs.Ytjnfhppjkadlpaa.Sp
theorem less_eq {x y : UInt8} {b : Bool} (h : ltU x y = b) (w : World) : Calls Try.prog 83 #[bv x, bv y] w fun e w' => e = .returned (.bool b) ∧ w' = w := by
  rw [← h]; exact less_calls x y w
/-- A cell with a number. -/
def num (p : Nat) (k : Int) : HP := pts p (.cells #[.int .i64 k] 3 (0, 0))
section
variable {B : Nat} {w0 : World} {R : HP}
set_option maxRecDepth 100000 in
set_option maxHeartbeats 4000000 in
theorem ord2_calls (g n c i j p k : Nat) (d : Array UInt8) (X : List Value) (hn : d.size = n) (hs : n ≤ 1000000) (hi : i < n) (hj : j < n) (hk : k ≤ 1000) (w : World) (s : St B w0 w (arr g d X * (num p k * R))) :
    Calls Try.prog 107 #[.slice (some ⟨g, 0, none⟩) n c, .int .i64 i, .int .i64 j, .pointer (some ⟨p, 0, none⟩)] w fun e w' => e = .returned (.tuple #[.int .i64 (order2 ltU d i j k).1, .int .i64 (order2 ltU d i j k).2.1]) ∧ St B w0 w' (arr g d X * (num p (order2 ltU d i j k).2.2 * R)) := by
  have c0 := arr_fam s i (by omega)
  have c1 := arr_fam s j (by omega)
  obtain ⟨G, hG⟩ : ∃ G : Nat → UInt8, ∀ t, G t = d[t]! := ⟨fun t => d[t]!, fun _ => rfl⟩
  rw [← hG] at c0 c1
  have s1 : St B w0 w (pts p (.cells #[.int .i64 k] 3 (0, 0)) * (arr g d X * R)) := s.eq (sep_left_comm _ _ _)
  have c2 := St.cell s1 0
  have f2 := St.free s1 0
  simp at c2
  have e : order2 ltU d i j k = if ltU (G j) (G i) = true then (j, i, k + 1) else (i, j, k) := by unfold order2; rw [hG, hG]
  rw [e]
  have S1 := Lib.hid s1
  cases hl : ltU (G j) (G i) with
  | true =>
    rw [if_pos rfl]
    clear s s1 hG e
    have Hn := Lib.hid hn
    clear hn
    go_enter Try.func107, Try.ntmps107
    go_wp2_with fail
    go_quiet (first | (go_at_call 83; refine Calls.quiet_of_same (less_eq hl _)))
    go_wp2_with fail
    go_ret2
    have q := St.set (S1.out.drewN nq) 0 (.int .i64 ((k : Int) + 1))
    exact ⟨rfl, St.eq (sep_left_comm _ _ _) (show St B w0 _ (num p ((k + 1 : Nat) : Int) * (arr g d X * R)) from q)⟩
  | false =>
    rw [if_neg (by simp)]
    clear s s1 hG e
    have Hn := Lib.hid hn
    clear hn
    go_enter Try.func107, Try.ntmps107
    go_wp2_with fail
    go_quiet (first | (go_at_call 83; refine Calls.quiet_of_same (less_eq hl _)))
    go_wp2_with fail
    go_ret2
    exact ⟨rfl, (S1.out.drewN nq).eq (sep_left_comm _ _ _)⟩
theorem ord2_lt (d : Array UInt8) {i j n : Nat} (k : Nat) (hi : i < n) (hj : j < n) : (order2 ltU d i j k).1 < n ∧ (order2 ltU d i j k).2.1 < n ∧ (order2 ltU d i j k).2.2 ≤ k + 1 := by
  unfold order2
  split
  · exact ⟨hj, hi, Nat.le_refl _⟩
  · exact ⟨hi, hj, Nat.le_succ _⟩
set_option maxRecDepth 100000 in
set_option maxHeartbeats 4000000 in
theorem med_calls (g n c i j l p k : Nat) (d : Array UInt8) (X : List Value) (hn : d.size = n) (hs : n ≤ 1000000) (hi : i < n) (hj : j < n) (hl : l < n) (hk : k ≤ 100) (w : World) (s : St B w0 w (arr g d X * (num p k * R))) :
    Calls Try.prog 100 #[.slice (some ⟨g, 0, none⟩) n c, .int .i64 i, .int .i64 j, .int .i64 l, .pointer (some ⟨p, 0, none⟩)] w fun e w' => e = .returned (.int .i64 (median ltU d i j l k).1) ∧ St B w0 w' (arr g d X * (num p (median ltU d i j l k).2 * R)) := by
  have e : median ltU d i j l k = ((order2 ltU d (order2 ltU d i j k).1 (order2 ltU d (order2 ltU d i j k).2.1 l (order2 ltU d i j k).2.2).1 (order2 ltU d (order2 ltU d i j k).2.1 l (order2 ltU d i j k).2.2).2.2).2.1, (order2 ltU d (order2 ltU d i j k).1 (order2 ltU d (order2 ltU d i j k).2.1 l (order2 ltU d i j k).2.2).1 (order2 ltU d (order2 ltU d i j k).2.1 l (order2 ltU d i j k).2.2).2.2).2.2) := rfl
  rw [e]
  obtain ⟨a1, a2, a3⟩ := ord2_lt d k hi hj
  have Q1 := Lib.hid (ord2_calls g n c i j p k d X hn hs hi hj (by omega) w s)
  generalize order2 ltU d i j k = r1 at *
  obtain ⟨x1, y1, k1⟩ := r1
  simp only at a1 a2 a3
  obtain ⟨b1, b2, b3⟩ := ord2_lt d k1 a2 hl
  have Q2 := Lib.hid (fun w s => ord2_calls (B := B) (w0 := w0) (R := R) g n c y1 l p k1 d X hn hs a2 hl (by omega) w s)
  simp only
  generalize order2 ltU d y1 l k1 = r2 at *
  obtain ⟨x2, y2, k2⟩ := r2
  simp only at b1 b2 b3
  have Q3 := Lib.hid (fun w s => ord2_calls (B := B) (w0 := w0) (R := R) g n c x1 x2 p k2 d X hn hs a1 b1 (by omega) w s)
  simp only
  generalize order2 ltU d x1 x2 k2 = r3 at *
  obtain ⟨x3, y3, k3⟩ := r3
  clear s e
  have Hn := Lib.hid hn
  clear hn
  go_enter Try.func100, Try.ntmps100
  go_wp2_with fail
  refine Q1.out.mono ?_
  rintro e w1 ⟨rfl, s1⟩
  have S1 := Lib.hid s1
  clear s1 Q1
  go_wp2_with fail
  refine (Q2.out _ S1.out).mono ?_
  rintro e w2 ⟨rfl, s2⟩
  have S2 := Lib.hid s2
  clear s2 Q2 S1
  go_wp2_with fail
  refine (Q3.out _ S2.out).mono ?_
  rintro e w3 ⟨rfl, s3⟩
  have S3 := Lib.hid s3
  clear s3 Q3 S2
  go_wp2_with fail
  go_ret
  exact ⟨rfl, S3.out⟩
/-- A hint, as Go has it. -/
def hintV : Hint → Int
  | .unknown => 0
  | .increasing => 1
  | .decreasing => 2
set_option maxRecDepth 100000 in
set_option maxHeartbeats 4000000 in
theorem piv_calls (g n c a b : Nat) (d : Array UInt8) (X : List Value) (hn : d.size = n) (hs : n ≤ 49) (hab : a + 8 ≤ b) (hb : b ≤ n) (w : World) (s : St B w0 w (arr g d X * R)) :
    Calls Try.prog 80 #[.slice (some ⟨g, 0, none⟩) n c, .int .i64 a, .int .i64 b] w fun e w' => e = .returned (.tuple #[.int .i64 (choosePivot ltU d a b).1, .int .i64 (hintV (choosePivot ltU d a b).2)]) ∧ St B w0 w' (arr g d X * R) := by
  obtain ⟨l, rfl⟩ : ∃ l, b = a + l := ⟨b - a, by omega⟩
  have e : choosePivot ltU d a (a + l) = ((median ltU d (a + l / 4 * 1) (a + l / 4 * 2) (a + l / 4 * 3) 0).1, if (median ltU d (a + l / 4 * 1) (a + l / 4 * 2) (a + l / 4 * 3) 0).2 = 0 then .increasing else if (median ltU d (a + l / 4 * 1) (a + l / 4 * 2) (a + l / 4 * 3) 0).2 = 12 then .decreasing else .unknown) := by
    unfold choosePivot
    rw [show a + l - a = l by omega]
    simp only
    rw [if_pos (show l ≥ 8 by omega), if_neg (show ¬ l ≥ 50 by omega)]
  rw [e]
  have hdv : Int.tdiv (l : Int) 4 = ((l / 4 : Nat) : Int) := by rw [Int.tdiv_eq_ediv_of_nonneg (by omega)]; omega
  have Q1 := Lib.hid (fun p w s => med_calls (B := B) (w0 := w0) (R := R) g n c (a + l / 4 * 1) (a + l / 4 * 2) (a + l / 4 * 3) p 0 d X hn (by omega) (by omega) (by omega) (by omega) (by omega) w s)
  have hq := Go.Sort.median_count (lt := ltU) d (a + l / 4 * 1) (a + l / 4 * 2) (a + l / 4 * 3) 0
  generalize median ltU d (a + l / 4 * 1) (a + l / 4 * 2) (a + l / 4 * 3) 0 = r at *
  obtain ⟨x, k⟩ := r
  have s1 := s.alloc (.cells #[.int .i64 0] 3)
  have S1 := Lib.hid (show St B w0 _ (arr g d X * (num w.heap.size (0 : Nat) * R)) from s1.eq (sep_left_comm _ _ _))
  have hq4 : l / 4 ≤ 12 := by omega
  have hqe : ((a : Int) + (l : Int) - (a : Int)) / 4 = ((l / 4 : Nat) : Int) := by omega
  generalize l / 4 = q at *
  have q1 := Q1.out w.heap.size _ S1.out
  rw [show ((a + q * 1 : Nat) : Int) = (a : Int) + (q : Int) by omega, show ((a + q * 2 : Nat) : Int) = (a : Int) + (q : Int) * 2 by omega, show ((a + q * 3 : Nat) : Int) = (a : Int) + (q : Int) * 3 by omega] at q1
  have Q2 := Lib.hid q1
  clear s s1 e q1 Q1
  simp only at hq
  have HQ := Lib.hid hqe
  clear hqe hdv
  have Hn := Lib.hid hn
  clear hn
  go_enter Try.func80, Try.ntmps80
  go_wp2_with fail
  rw [HQ.out]
  refine Q2.out.mono ?_
  rintro e w2 ⟨rfl, s2⟩
  have c2 := St.cell (s2.eq (Q := pts w.heap.size (.cells #[.int .i64 k] 3 (0, 0)) * (arr g d X * R)) (sep_left_comm _ _ _)) 0
  simp at c2
  have S2 := Lib.hid (s2.eq (Q := num w.heap.size k * (arr g d X * R)) (sep_left_comm _ _ _)).right
  clear s2 Q2 S1 HQ
  simp only
  by_cases hk0 : k = 0
  · subst hk0
    go_wp2_with fail
    go_ret2
    exact ⟨rfl, S2.out⟩
  · have h0 : ((k : Int) == 0) = false := by simp; omega
    have h12 : ((k : Int) == 12) = false := by simp; omega
    have HK := Lib.hid hk0
    clear hk0
    go_wp2_with fail
    go_ret2
    exact ⟨rfl, S2.out⟩
theorem piv_hint (d : Array UInt8) {a b : Nat} (h1 : a + 8 ≤ b) (h2 : b < a + 50) : (choosePivot ltU d a b).2 ≠ .decreasing := by
  obtain ⟨l, rfl⟩ : ∃ l, b = a + l := ⟨b - a, by omega⟩
  have hq := Go.Sort.median_count (lt := ltU) d (a + l / 4 * 1) (a + l / 4 * 2) (a + l / 4 * 3) 0
  unfold choosePivot
  rw [show a + l - a = l by omega]
  simp only
  rw [if_pos (show l ≥ 8 by omega), if_neg (show ¬ l ≥ 50 by omega)]
  split
  · simp
  · rw [if_neg (by omega)]; simp
/-! ### the patterns -/
set_option maxRecDepth 100000 in
set_option maxHeartbeats 4000000 in
/-- The next random number: any; its cell holds some. -/
theorem next_calls (p : Nat) (z : Int) (w : World) (s : St B w0 w (pts p (.cells #[.int .u64 z] 151 (0, 0)) * R)) :
    Calls Try.prog 98 #[.pointer (some ⟨p, 0, none⟩)] w fun e w' => ∃ y : Int, e = .returned (.int .u64 y) ∧ St B w0 w' (pts p (.cells #[.int .u64 y] 151 (0, 0)) * R) := by
  have c0 := s.cell 0
  have f0 := s.free 0
  simp at c0
  have S := Lib.hid s
  clear s
  go_enter Try.func98, Try.ntmps98
  go_wp2_with fail
  go_region
  all_goals go_wp2_with fail
  generalize bits .xor .u64 _ _ = y1
  have s1 := (S.out.set 0 (.int .u64 y1)).drew
  generalize (w.setCell _ _).drew = w1 at s1 ⊢
  clear S c0 f0
  have c0 := St.cell s1 0
  have f0 := St.free s1 0
  simp at c0
  have S := Lib.hid s1
  clear s1
  go_region
  all_goals go_wp2_with fail
  generalize bits .xor .u64 _ _ = y2
  have s1 := (S.out.set 0 (.int .u64 y2)).drew
  simp only [List.setIfInBounds_toArray, List.set_cons_zero] at s1
  generalize (w1.setCell _ _).drew = w2 at s1 ⊢
  clear S c0 f0
  have c0 := St.cell s1 0
  have f0 := St.free s1 0
  simp at c0
  have S := Lib.hid s1
  clear s1
  go_region
  all_goals go_wp2_with fail
  generalize bits .xor .u64 _ _ = y3
  have s1 := (S.out.set 0 (.int .u64 y3)).drew
  simp only [List.setIfInBounds_toArray, List.set_cons_zero] at s1
  generalize (w2.setCell _ _).drew = w3 at s1 ⊢
  clear S c0 f0
  have c0 := St.cell s1 0
  simp at c0
  have S := Lib.hid s1
  clear s1
  go_wp2_with fail
  go_ret
  exact ⟨y3, rfl, S.out⟩
theorem small19 {n : Nat} (h : n ≤ 18) : n = 0 ∨ n = 1 ∨ n = 2 ∨ n = 3 ∨ n = 4 ∨ n = 5 ∨ n = 6 ∨ n = 7 ∨ n = 8 ∨ n = 9 ∨ n = 10 ∨ n = 11 ∨ n = 12 ∨ n = 13 ∨ n = 14 ∨ n = 15 ∨ n = 16 ∨ n = 17 ∨ n = 18 := by omega
set_option maxRecDepth 100000 in
set_option maxHeartbeats 4000000 in
theorem len_calls (n : Nat) (hn : n ≤ 18) (w : World) : Calls Try.prog 69 #[.int .u64 (n : Int)] w fun e w' => e = .returned (.int .i64 (bitsLen n)) ∧ w' = w := by
  have q : Calls Try.prog 87 #[.int .u64 (n : Int)] w fun e w' => e = .returned (.int .i64 (bitsLen n)) ∧ w' = w := by
    rcases small19 hn with rfl | rfl | rfl | rfl | rfl | rfl | rfl | rfl | rfl | rfl | rfl | rfl | rfl | rfl | rfl | rfl | rfl | rfl | rfl
    all_goals
      go_enter Try.func87, Try.ntmps87
      go_wp2_with fail
      go_ret
      exact ⟨by kernel_rfl, rfl⟩
  have Q := Lib.hid q
  clear q
  go_enter Try.func69, Try.ntmps69
  go_wp2_with fail
  refine Q.out.mono ?_
  rintro e w' ⟨rfl, rfl⟩
  clear Q
  go_wp2_with fail
  go_ret
  exact ⟨rfl, rfl⟩
theorem npow_calls (n : Nat) (h1 : 8 ≤ n) (hn : n ≤ 18) (w : World) : Calls Try.prog 97 #[.int .i64 (n : Int)] w fun e w' => (∃ m : Nat, e = .returned (.int .u64 ((m : Int) + 1)) ∧ (m = 15 ∨ m = 31) ∧ m < 2 * n) ∧ w' = w := by
  have Q := Lib.hid (len_calls n hn w)
  have hb : bitsLen n = 4 ∧ n ≤ 15 ∨ bitsLen n = 5 ∧ 16 ≤ n := by
    rcases small19 hn with rfl | rfl | rfl | rfl | rfl | rfl | rfl | rfl | rfl | rfl | rfl | rfl | rfl | rfl | rfl | rfl | rfl | rfl | rfl
    all_goals first | (exfalso; omega) | exact .inl (by decide +kernel) | exact .inr (by decide +kernel)
  rcases hb with ⟨hb, hx⟩ | ⟨hb, hx⟩
  · rw [hb] at Q
    go_enter Try.func97, Try.ntmps97
    go_wp2_with fail
    refine Q.out.mono ?_
    rintro e w' ⟨rfl, rfl⟩
    clear Q hb
    go_wp2_with fail
    go_ret
    exact ⟨⟨15, rfl, .inl rfl, by omega⟩, rfl⟩
  · rw [hb] at Q
    go_enter Try.func97, Try.ntmps97
    go_wp2_with fail
    refine Q.out.mono ?_
    rintro e w' ⟨rfl, rfl⟩
    clear Q hb
    go_wp2_with fail
    go_ret
    exact ⟨⟨31, rfl, .inr rfl, by omega⟩, rfl⟩
theorem and_u15 (n : Int) : bits .and .u64 n 15 = n % 16 := by
  have h1 : (BitVec.ofInt 64 15).toNat = 2 ^ 4 - 1 := by decide
  have key : (BitVec.ofInt 64 n &&& BitVec.ofInt 64 15).toNat = (n % ((2 ^ 64 : Nat) : Int)).toNat % 2 ^ 4 := by
    rw [BitVec.toNat_and, BitVec.toNat_ofInt, h1, Nat.and_two_pow_sub_one_eq_mod]
  show IntKind.u64.wrap ((BitVec.ofInt 64 n &&& BitVec.ofInt 64 15).toNat : Nat) = n % 16
  rw [key, IntKind.wrap_u64]
  omega
theorem and_u31 (n : Int) : bits .and .u64 n 31 = n % 32 := by
  have h1 : (BitVec.ofInt 64 31).toNat = 2 ^ 5 - 1 := by decide
  have key : (BitVec.ofInt 64 n &&& BitVec.ofInt 64 31).toNat = (n % ((2 ^ 64 : Nat) : Int)).toNat % 2 ^ 5 := by
    rw [BitVec.toNat_and, BitVec.toNat_ofInt, h1, Nat.and_two_pow_sub_one_eq_mod]
  show IntKind.u64.wrap ((BitVec.ofInt 64 n &&& BitVec.ofInt 64 31).toNat : Nat) = n % 32
  rw [key, IntKind.wrap_u64]
  omega
theorem and_u64 (z : Int) (m : Nat) (hm : m = 15 ∨ m = 31) : ∃ v : Nat, bits .and .u64 z (m : Int) = (v : Int) ∧ v ≤ m := by
  rcases hm with rfl | rfl
  · exact ⟨(z % 16).toNat, by rw [show ((15 : Nat) : Int) = 15 from rfl, and_u15]; omega, by omega⟩
  · exact ⟨(z % 32).toNat, by rw [show ((31 : Nat) : Int) = 31 from rfl, and_u31]; omega, by omega⟩
set_option maxRecDepth 100000 in
set_option maxHeartbeats 8000000 in
theorem brk_calls (g n c a b : Nat) (d : Array UInt8) (X : List Value) (hn : d.size = n) (hs : n ≤ 18) (hab : a + 8 ≤ b) (hb : b ≤ n) (w : World) (s : St B w0 w (arr g d X * R)) :
    Calls Try.prog 79 #[.slice (some ⟨g, 0, none⟩) n c, .int .i64 a, .int .i64 b] w fun e w' => e = .returned (.tuple #[]) ∧ ∃ d', PermIn a b d d' ∧ St B w0 w' (arr g d' X * R) := by
  obtain ⟨l, rfl⟩ : ∃ l, b = a + l := ⟨b - a, by omega⟩
  have hl : 8 ≤ l ∧ l ≤ 18 := by omega
  have hle : (a : Int) + (l : Int) - (a : Int) = (l : Int) := by omega
  have Q := Lib.hid (fun w => npow_calls l hl.1 hl.2 w)
  have HA := Lib.hid (s.alloc (.cells #[.int .u64 (l : Int)] 151))
  have hq4 : (l : Int) / 4 = ((l / 4 : Nat) : Int) := by omega
  have hq5 : 2 ≤ l / 4 ∧ l / 4 * 2 + 2 ≤ l := by omega
  generalize l / 4 = q at *
  clear s
  have Hn := Lib.hid hn
  clear hn
  have HQ4 := Lib.hid hq4
  clear hq4
  go_enter Try.func79, Try.ntmps79
  go_wp2_with fail
  refine (Q.out _).mono ?_
  rintro e w2 ⟨⟨m, rfl, hm, hm2⟩, rfl⟩
  generalize w.alloc _ = w1 at HA ⊢
  generalize w.heap.size = p at *
  have HM := Lib.hid hm
  have hm3 : m ≤ 31 := by omega
  have hq4 := HQ4.out
  clear hm Q
  go_wp2_with fail
  clear hq4
  go_loopw [9] (fun vi wr => ∃ (i : Nat) (dk : Array UInt8) (y : Int), vi = .int .i64 i ∧ a + q * 2 ≤ i + 1 ∧ i ≤ a + q * 2 + 2 ∧ dk.size = n ∧ PermIn a (a + l) d dk ∧ St B w0 wr (pts p (.cells #[.int .u64 y] 151 (0, 0)) * (arr g dk X * R))) (fun vi _ => a + q * 2 + 2 - (intOf vi).toNat)
  case atStart => exact ⟨a + q * 2 - 1, d, l, by congr 1; omega, by omega, by omega, Hn.out, permIn_refl _ _ _, HA.out⟩
  case round =>
    obtain ⟨i, dk, y, rfl, hi1, hi2, hsk, hpm, s1⟩ := hrel
    clear HA
    have S1 := Lib.hid s1
    have HSK := Lib.hid hsk
    have HPM := Lib.hid hpm
    have hq4 := HQ4.out
    by_cases hle2 : i ≤ a + q * 2 + 1
    · have hleI : (i : Int) ≤ (a : Int) + (q : Int) * 2 + 1 := by omega
      clear s1 hsk hpm
      go_wp2_with fail
      refine (next_calls p y _ S1.out).mono ?_
      rintro e w3 ⟨z, rfl, s3⟩
      obtain ⟨v, hv, hvm⟩ := and_u64 z m HM.out
      have S3 := Lib.hid (s3.eq (Q := arr g dk X * (pts p (.cells #[.int .u64 z] 151 (0, 0)) * R)) (sep_left_comm _ _ _))
      clear s3 S1
      by_cases hvl : v < l
      · have hvI : ¬ (l : Int) ≤ (v : Int) := by omega
        have hz := HSK.out
        have c0 := arr_fam S3.out i (by omega)
        have c1 := arr_fam S3.out (a + v) (by omega)
        have f0 := arr_free S3.out i (by omega)
        have f1 := arr_free S3.out (a + v) (by omega)
        obtain ⟨G, hG⟩ : ∃ G : Nat → UInt8, ∀ t, G t = dk[t]! := ⟨fun t => dk[t]!, fun _ => rfl⟩
        rw [← hG] at c0 c1
        have HG := Lib.hid hG
        clear hG hz
        go_wp2_with fail
        have HP2 := Lib.hid (permIn_trans _ _ _ a (a + l) HPM.out (swp_permIn dk a (a + l) i (a + v) (by omega) (by omega) (by omega) (by omega) (by have := HSK.out; omega)))
        have HB := Lib.hid (show i < dk.size ∧ a + v < dk.size from by have := HSK.out; omega)
        by_cases heq : i = a + v
        · have HEQ := Lib.hid heq
          rw [← heq] at c1 f1
          have hai : (a : Int) + (v : Int) = (i : Int) := by omega
          have hai2 : a + v = i := by omega
          clear heq
          go_region
          all_goals go_wp2_with fail
          go_roundw
          case rel =>
            refine ⟨i + 1, swp dk i (a + v), z, by congr 1, by omega, by omega, by rw [size_swp]; exact HSK.out, HP2.out, ?_⟩
            rw [← HEQ.out, HG.out]
            exact St.eq (sep_left_comm _ _ _) (arr_swp HB.out.1 HB.out.1 S3.out)
          case measure => (simp [intOf] <;> omega)
        · go_region
          all_goals go_wp2_with fail
          go_roundw
          case rel =>
            refine ⟨i + 1, swp dk i (a + v), z, by congr 1, by omega, by omega, by rw [size_swp]; exact HSK.out, HP2.out, ?_⟩
            rw [HG.out, HG.out]
            exact St.eq (sep_left_comm _ _ _) (arr_swp HB.out.1 HB.out.2 S3.out)
          case measure => (simp [intOf] <;> omega)
      · have hvI : (l : Int) ≤ (v : Int) := by omega
        have hz := HSK.out
        have c0 := arr_fam S3.out i (by omega)
        have c1 := arr_fam S3.out (a + (v - l)) (by omega)
        have f0 := arr_free S3.out i (by omega)
        have f1 := arr_free S3.out (a + (v - l)) (by omega)
        obtain ⟨G, hG⟩ : ∃ G : Nat → UInt8, ∀ t, G t = dk[t]! := ⟨fun t => dk[t]!, fun _ => rfl⟩
        rw [← hG] at c0 c1
        have HG := Lib.hid hG
        clear hG hz
        go_wp2_with fail
        have HP2 := Lib.hid (permIn_trans _ _ _ a (a + l) HPM.out (swp_permIn dk a (a + l) i (a + (v - l)) (by omega) (by omega) (by omega) (by omega) (by have := HSK.out; omega)))
        have HB := Lib.hid (show i < dk.size ∧ a + (v - l) < dk.size from by have := HSK.out; omega)
        by_cases heq : i = a + (v - l)
        · have HEQ := Lib.hid heq
          rw [← heq] at c1 f1
          have hai : (a : Int) + ((v - l) : Int) = (i : Int) := by omega
          have hai2 : a + (v - l) = i := by omega
          clear heq
          go_region
          all_goals go_wp2_with fail
          go_roundw
          case rel =>
            refine ⟨i + 1, swp dk i (a + (v - l)), z, by congr 1, by omega, by omega, by rw [size_swp]; exact HSK.out, HP2.out, ?_⟩
            rw [← HEQ.out, HG.out]
            exact St.eq (sep_left_comm _ _ _) (arr_swp HB.out.1 HB.out.1 S3.out)
          case measure => (simp [intOf] <;> omega)
        · go_region
          all_goals go_wp2_with fail
          go_roundw
          case rel =>
            refine ⟨i + 1, swp dk i (a + (v - l)), z, by congr 1, by omega, by omega, by rw [size_swp]; exact HSK.out, HP2.out, ?_⟩
            rw [HG.out, HG.out]
            exact St.eq (sep_left_comm _ _ _) (arr_swp HB.out.1 HB.out.2 S3.out)
          case measure => (simp [intOf] <;> omega)
    · have hleI : ¬ (i : Int) ≤ (a : Int) + (q : Int) * 2 + 1 := by omega
      clear s1 hsk hpm
      go_wp2_with fail
      go_end0
      exact ⟨rfl, dk, HPM.out, S1.out.right⟩
end
end Go.Proofs.Ytjnfhppjkadlpaa.SrA

set_option linter.unusedSimpArgs false
set_option linter.unusedVariables false
namespace Go.Proofs.Ytjnfhppjkadlpaa.SrA
open Go Go.RowKit Go.Sort Go.Proofs.Ytjnfhppjkadlpaa Go.Proofs.Ytjnfhppjkadlpaa.Sp
theorem swo_ltU : SWO ltU where
  irrefl x := by simp [ltU]
  trans x y z h1 h2 := by simp only [ltU, decide_eq_true_eq] at *; omega
  ntrans x y z h1 h2 := by simp only [ltU, decide_eq_false_iff_not] at *; omega
/-- What a sort gives. -/
def SortP (B : Nat) (w0 : World) (g a b : Nat) (d : Array UInt8) (X : List Value) (R : HP) (e : Ending) (w' : World) : Prop :=
  e = .returned (.tuple #[]) ∧ ∃ d', PermIn a b d d' ∧ SortedIn ltU a b d' ∧ St B w0 w' (arr g d' X * R)
/-- What is left to do: whatever sorts the rest sorts all. -/
def Left (a0 b0 : Nat) (d0 : Array UInt8) (a b : Nat) (d : Array UInt8) : Prop := ∀ d', PermIn a b d d' → SortedIn ltU a b d' → PermIn a0 b0 d0 d' ∧ SortedIn ltU a0 b0 d'
/-- The bound on the limit: the heap is never asked. -/
def LimOk (a b limit : Nat) (wb : Bool) : Prop := (b ≤ a + 17 ∧ b ≤ a + limit + 12) ∨ (wb = true ∧ b = a + 18 ∧ limit = 5) ∨ b ≤ a + 12
section
variable {B : Nat} {w0 : World} {R : HP}
set_option maxRecDepth 100000 in
set_option maxHeartbeats 16000000 in
theorem pdq_calls (g n c : Nat) (X : List Value) (hs : n ≤ 18) : ∀ (m a b limit : Nat) (d : Array UInt8) (w : World), b - a ≤ m → d.size = n → a ≤ b → b ≤ n → limit ≤ 5 → LimOk a b limit true → Below ltU a b d → St B w0 w (arr g d X * R) →
    Calls Try.prog 68 #[.slice (some ⟨g, 0, none⟩) n c, .int .i64 a, .int .i64 b, .int .i64 limit] w (SortP B w0 g a b d X R) := by
  intro m
  induction m using Nat.strongRecOn with
  | _ m IH =>
  intro a0 b0 limit0 d0 w hm hn hab hb hlm hlo hbel s
  have HIH := Lib.hid IH
  have HB0 := Lib.hid hbel
  have HL0 := Lib.hid hlo
  have S := Lib.hid s
  have Hn := Lib.hid hn
  clear s hn
  clear IH hbel hlo
  go_enter Try.func68, Try.ntmps68
  go_wp2_with fail
  go_loopw [1, 2, 3, 8, 9] (fun va vb vl vwb vwp wr => ∃ (a b limit : Nat) (wb wp : Bool) (d : Array UInt8), va = .int .i64 a ∧ vb = .int .i64 b ∧ vl = .int .i64 limit ∧ vwb = .bool wb ∧ vwp = .bool wp ∧ a0 ≤ a ∧ a ≤ b ∧ b ≤ b0 ∧ limit ≤ 5 ∧ LimOk a b limit wb ∧ d.size = n ∧ Below ltU a b d ∧ Left a0 b0 d0 a b d ∧ St B w0 wr (arr g d X * R)) (fun va vb _ _ _ _ => (intOf vb).toNat - (intOf va).toNat)
  case atStart => exact ⟨a0, b0, limit0, true, true, d0, rfl, rfl, rfl, rfl, rfl, Nat.le_refl _, hab, Nat.le_refl _, hlm, HL0.out, Hn.out, HB0.out, fun d' h1 h2 => ⟨h1, h2⟩, S.out⟩
  case round =>
    obtain ⟨a, b, limit, wb, wp, d, rfl, rfl, rfl, rfl, rfl, h1, h2, h3, h4, hlo, hsk, hbel, hleft, s1⟩ := hrel
    clear S HB0 HL0
    have HBL := Lib.hid hbel
    have HLF := Lib.hid hleft
    by_cases hsm : b ≤ a + 12
    · have hsI : (b : Int) - (a : Int) ≤ 12 := by omega
      have Q := Lib.hid (ins_calls (B := B) (w0 := w0) (R := R) g n c a b d X hsk (by omega) h2 (by omega) _ s1)
      have HI := Lib.hid (insertionSort_holds swo_ltU d a b h2 (by omega))
      clear hbel hleft s1 hlo hsk
      go_wp2_with fail
      refine Q.out.mono ?_
      rintro e w2 ⟨rfl, s2⟩
      have S2 := Lib.hid s2
      clear s2 Q
      go_wp2_with fail
      first | go_end0 | refine bodyPost_ret (results_none rfl _ _ _) rfl ?_
      obtain ⟨hp, hso⟩ := HLF.out _ HI.out.1 HI.out.2
      exact ⟨rfl, _, hp, hso, S2.out⟩
    · have hsI : ¬ (b : Int) - (a : Int) ≤ 12 := by omega
      have hl1 : 1 ≤ limit := by rcases hlo with h | h | h <;> omega
      have hlI : ((limit : Int) == 0) = false := by simp; omega
      have hb18 : b ≤ a + 18 := by omega
      have HLO := Lib.hid hlo
      have HSK := Lib.hid hsk
      have S1 := Lib.hid s1
      clear hbel hleft s1 hlo hsk
      go_upto_if 35 with fail
      go_cut [3] from 36 to 41 (fun vl wx => ∃ (limit1 : Nat) (d1 : Array UInt8), vl = .int .i64 limit1 ∧ limit1 ≤ 5 ∧ b ≤ a + limit1 + 13 ∧ PermIn a b d d1 ∧ St B w0 wx (arr g d1 X * R))
      case first =>
        cases wb with
        | true =>
          go_wp2_with fail
          go_meet
          exact ⟨limit, d, rfl, h4, by rcases HLO.out with h | h | h <;> omega, permIn_refl _ _ _, S1.out⟩
        | false =>
          go_wp2_with fail
          refine (brk_calls g n c a b d X HSK.out hs (by omega) (by omega) _ S1.out).mono ?_
          rintro e w2 ⟨rfl, d1, hp1, s2⟩
          have S2 := Lib.hid s2
          have HP1 := Lib.hid hp1
          clear s2 hp1
          go_wp2_with fail
          go_meet
          exact ⟨limit - 1, d1, by congr 1; omega, by omega, by rcases HLO.out with h | h | h <;> first | omega | (exact absurd h.1 (by simp)), HP1.out, S2.out⟩
      obtain ⟨limit1, d1, rfl, hl5, hl13, hp1, s2⟩ := hcut
      have hsz1 : d1.size = n := by rw [hp1.1]; exact HSK.out
      have hbel1 := Below.perm HBL.out (by rw [HSK.out]; omega) hp1
      have hleft1 : Left a0 b0 d0 a b d1 := fun d' g1 g2 => HLF.out d' (permIn_trans _ _ _ _ _ hp1 g1) g2
      have HLF1 := Lib.hid hleft1
      have HBL1 := Lib.hid hbel1
      have HSZ1 := Lib.hid hsz1
      have hpr := choosePivot_holds ltU d1 a b (by omega)
      have hhn := piv_hint d1 (a := a) (b := b) (by omega) (by omega)
      have Q := Lib.hid (piv_calls (B := B) (w0 := w0) (R := R) g n c a b d1 X hsz1 (by omega) (by omega) (by omega) _ s2)
      generalize choosePivot ltU d1 a b = ph at *
      obtain ⟨p, hh⟩ := ph
      simp only at hpr hhn
      obtain ⟨hp1', hp2'⟩ := hpr
      have hh2 : (hintV hh == 2) = false := by cases hh <;> first | rfl | exact absurd rfl hhn
      clear s2 S1 hp1 hsz1 hbel1 hleft1 HBL HLF HSK HLO hl1 hlI h4 hhn
      go_wp2_with fail
      refine Q.out.mono ?_
      rintro e w3 ⟨rfl, s3⟩
      have S3 := Lib.hid s3
      clear s3 Q
      go_upto_region 15 with fail
      clear hh2
      go_cut [68] from 61 to 67 (fun v68 wx => (∃ cb : Bool, v68 = .bool cb) ∧ St B w0 wx (arr g d1 X * R))
      case first =>
        cases wb <;> cases wp <;> cases hh
        all_goals
          go_wp2_with fail
          go_meet
          exact ⟨⟨_, rfl⟩, S3.out⟩
      obtain ⟨⟨cb, rfl⟩, s3⟩ := hcut
      have S4 := Lib.hid s3
      clear s3 S3
      go_upto_if 68 with fail
      go_cut [] from 69 to 72 (fun wx => St B w0 wx (arr g d1 X * R))
      case first =>
        cases cb with
        | false =>
          go_wp2_with fail
          go_meet
          exact S4.out
        | true =>
          have hpi := partialInsertionSort_holds swo_ltU d1 a b (by omega) (by rw [HSZ1.out]; omega) HBL1.out
          have Q := Lib.hid (pins_calls (B := B) (w0 := w0) (R := R) g n c a b d1 X HSZ1.out (by omega) (by omega) (by omega) _ S4.out)
          generalize partialInsertionSort ltU d1 a b = pr at *
          obtain ⟨dz, bz⟩ := pr
          simp only at hpi
          have HPI := Lib.hid hpi
          clear hpi
          go_wp2_with fail
          refine Q.out.mono ?_
          rintro e w4 ⟨rfl, hdz, s4⟩
          have S5 := Lib.hid s4
          have HDZ := Lib.hid hdz
          clear s4 hdz Q S4
          cases bz with
          | false =>
            go_wp2_with fail
            go_meet
            exact S5.out
          | true =>
            go_wp2_with fail
            first | go_end0 | refine bodyPost_ret (results_none rfl _ _ _) rfl ?_
            have hd : dz = d1 := HDZ.out
            have hx := HPI.out
            rw [hd] at hx
            obtain ⟨hp, hso⟩ := HLF1.out _ hx.1 (hx.2 (by trivial))
            exact ⟨rfl, _, hp, hso, S5.out⟩
      have S5 := Lib.hid hcut
      clear hcut S4
      go_upto_region 17 with fail
      go_cut [87] from 73 to 86 (fun v87 wx => v87 = .bool (decide (0 < a) && !ltU d1[a - 1]! d1[p]!) ∧ St B w0 wx (arr g d1 X * R))
      case first =>
        have s6 := S5.out
        have hsz := HSZ1.out
        obtain ⟨G, hG⟩ : ∃ G : Nat → UInt8, ∀ t, G t = d1[t]! := ⟨fun t => d1[t]!, fun _ => rfl⟩
        have c1 := arr_fam s6 p (by omega)
        have HG := Lib.hid hG
        by_cases ha0 : 0 < a
        · have haI : (0 : Int) < (a : Int) := by omega
          have c0 := arr_fam s6 (a - 1) (by omega)
          rw [← hG] at c0 c1
          clear s6 hsz hG
          go_wp2_with fail
          go_quiet (first | (go_at_call 83; refine Calls.quiet_of_same (less_calls _ _ _)))
          go_wp2_with fail
          go_meet
          exact ⟨by rw [HG.out, HG.out]; simp [ha0], S5.out.drewN _⟩
        · obtain rfl : a = 0 := by omega
          rw [← hG] at c1
          have haI : decide ((0 : Int) < ((0 : Nat) : Int)) = false := by simp
          clear s6 hsz hG
          go_wp2_with fail
          go_quiet (first | (go_at_call 83; refine Calls.quiet_of_same (less_calls _ _ _)))
          go_wp2_with fail
          go_meet
          exact ⟨by simp, S5.out.drewN _⟩
      obtain ⟨rfl, s6⟩ := hcut
      have S6 := Lib.hid s6
      clear s6 S5
      obtain ⟨pe, hpe⟩ : ∃ pe, (decide (0 < a) && !ltU d1[a - 1]! d1[p]!) = pe := ⟨_, rfl⟩
      rw [hpe]
      have HPE := Lib.hid hpe
      clear hpe
      cases pe with
      | true =>
        have hz := HPE.out
        simp only [Bool.and_eq_true, decide_eq_true_eq, Bool.not_eq_true'] at hz
        obtain ⟨ha0, hnl⟩ := hz
        have hre := fun mid d4 hx => round_eq (pivot := p) (mid := mid) (d4 := d4) swo_ltU (partitionEqual_holds ltU) ha0 hp1' hp2' (by rw [HSZ1.out]; omega) HBL1.out hnl hx
        have Q := Lib.hid (parq_calls (B := B) (w0 := w0) (R := R) g n c a b p d1 X HSZ1.out (by omega) hp1' hp2' (by omega) _ S6.out)
        generalize partitionEqual ltU d1 a b p = pr at *
        obtain ⟨mid, d4⟩ := pr
        obtain ⟨g1, g2, g3, g4, g5⟩ := hre mid d4 rfl
        have HN := Lib.hid (And.intro (g3.trans HSZ1.out) (And.intro g4 (show Left a0 b0 d0 mid b d4 from fun d' k1 k2 => HLF1.out d' (g5 d' k1 k2).1 (g5 d' k1 k2).2)))
        clear hre g3 g4 g5 hnl HPE
        go_wp2_with fail
        refine Q.out.mono ?_
        rintro e w4 ⟨rfl, s4⟩
        have S7 := Lib.hid s4
        clear s4 Q S6
        go_wp2_with fail
        go_roundw
        case rel => exact ⟨mid, b, limit1, wb, wp, d4, rfl, rfl, rfl, rfl, rfl, by omega, by omega, by omega, by omega, .inl ⟨by omega, by omega⟩, HN.out.1, HN.out.2.1, HN.out.2.2, S7.out⟩
        case measure => (simp [intOf] <;> omega)
      | false =>
        have hre := fun mid ap d4 hx => round_part (pivot := p) (mid := mid) (ap := ap) (d4 := d4) swo_ltU (partition_holds ltU) hp1' hp2' (by rw [HSZ1.out]; omega) HBL1.out hx
        have Q := Lib.hid (part_calls (B := B) (w0 := w0) (R := R) g n c a b p d1 X HSZ1.out (by omega) hp1' hp2' (by omega) _ S6.out)
        generalize partition ltU d1 a b p = pr at *
        obtain ⟨mid, ap, d4⟩ := pr
        obtain ⟨g1, g2, g3, g4, g5, g6, g7⟩ := hre mid ap d4 rfl
        have hszd : d4.size = n := g3.trans HSZ1.out
        have HSZ4 := Lib.hid hszd
        have hdv : Int.tdiv ((b : Int) - (a : Int)) 8 = (((b - a) / 8 : Nat) : Int) := by rw [Int.tdiv_eq_ediv_of_nonneg (by omega)]; omega
        have hdv2 : ((b : Int) - (a : Int)) / 8 = (((b - a) / 8 : Nat) : Int) := by omega
        have HDV := Lib.hid (And.intro hdv hdv2)
        by_cases hlr : mid - a < b - mid
        · have hlI : (mid : Int) - (a : Int) < (b : Int) - (mid : Int) := by omega
          have Q2 := Lib.hid (fun w s => HIH.out (mid - a) (by omega) a mid limit1 d4 w (Nat.le_refl _) hszd (by omega) (by omega) hl5 (.inl ⟨by omega, by omega⟩) g4 s)
          have HN := Lib.hid (fun d5 (k1 : PermIn a mid d4 d5) (k2 : SortedIn ltU a mid d5) => And.intro (k1.1.trans hszd) (And.intro (g6 d5 k1 k2).1 (show Left a0 b0 d0 (mid + 1) b d5 from fun d' j1 j2 => HLF1.out d' ((g6 d5 k1 k2).2 d' j1 j2).1 ((g6 d5 k1 k2).2 d' j1 j2).2)))
          clear hre g3 g4 g5 g6 g7 HPE hszd hdv hdv2
          go_wp2_with fail
          refine Q.out.mono ?_
          rintro e w4 ⟨rfl, s4⟩
          have S7 := Lib.hid s4
          clear s4 Q S6
          go_wp2_with fail
          refine (Q2.out _ S7.out).mono ?_
          rintro e w5 ⟨rfl, d5, k1, k2, s5⟩
          have S8 := Lib.hid s5
          have HN2 := Lib.hid (HN.out d5 k1 k2)
          clear s5 k1 k2 Q2 S7 HN
          go_wp2_with fail
          go_roundw
          case rel => exact ⟨mid + 1, b, limit1, _, ap, d5, by congr 1, rfl, rfl, rfl, rfl, by omega, by omega, by omega, by omega, .inl ⟨by omega, by omega⟩, HN2.out.1, HN2.out.2.1, HN2.out.2.2, S8.out⟩
          case measure => (simp [intOf] <;> omega)
        · have hlI : ¬ (mid : Int) - (a : Int) < (b : Int) - (mid : Int) := by omega
          have Q2 := Lib.hid (fun w s => HIH.out (b - (mid + 1)) (by omega) (mid + 1) b limit1 d4 w (Nat.le_refl _) hszd (by omega) (by omega) hl5 (.inl ⟨by omega, by omega⟩) g5 s)
          have HN := Lib.hid (fun d5 (k1 : PermIn (mid + 1) b d4 d5) (k2 : SortedIn ltU (mid + 1) b d5) => And.intro (k1.1.trans hszd) (And.intro (g7 d5 k1 k2).1 (show Left a0 b0 d0 a mid d5 from fun d' j1 j2 => HLF1.out d' ((g7 d5 k1 k2).2 d' j1 j2).1 ((g7 d5 k1 k2).2 d' j1 j2).2)))
          clear hre g3 g4 g5 g6 g7 HPE hszd hdv hdv2
          go_wp2_with fail
          refine Q.out.mono ?_
          rintro e w4 ⟨rfl, s4⟩
          have S7 := Lib.hid s4
          clear s4 Q S6
          have hcast : ((mid + 1 : Nat) : Int) = (mid : Int) + 1 := by omega
          rw [hcast] at Q2
          clear hcast
          go_wp2_with fail
          refine (Q2.out _ S7.out).mono ?_
          rintro e w5 ⟨rfl, d5, k1, k2, s5⟩
          have S8 := Lib.hid s5
          have HN2 := Lib.hid (HN.out d5 k1 k2)
          clear s5 k1 k2 Q2 S7 HN
          go_wp2_with fail
          go_roundw
          case rel => exact ⟨a, mid, limit1, _, ap, d5, rfl, rfl, rfl, rfl, rfl, by omega, by omega, by omega, by omega, .inl ⟨by omega, by omega⟩, HN2.out.1, HN2.out.2.1, HN2.out.2.2, S8.out⟩
          case measure => (simp [intOf] <;> omega)
/-- slices.Sort, of at most eighteen bytes. -/
theorem sort_calls (g n c : Nat) (d : Array UInt8) (X : List Value) (hn : d.size = n) (hs : n ≤ 18) (w : World) (s : St B w0 w (arr g d X * R)) :
    Calls Try.prog 52 #[.slice (some ⟨g, 0, none⟩) n c] w (SortP B w0 g 0 n d X R) := by
  have hlim : bitsLen n ≤ 5 ∧ LimOk 0 n (bitsLen n) true := by
    unfold LimOk
    rcases small19 hs with rfl | rfl | rfl | rfl | rfl | rfl | rfl | rfl | rfl | rfl | rfl | rfl | rfl | rfl | rfl | rfl | rfl | rfl | rfl
    all_goals decide +kernel
  have Q1 := Lib.hid (fun w => len_calls n hs w)
  have Q2 := Lib.hid (pdq_calls (B := B) (w0 := w0) (R := R) g n c X hs n 0 n (bitsLen n) d w (by omega) hn (Nat.zero_le _) (Nat.le_refl _) hlim.1 hlim.2 (.inl rfl) s)
  clear s hn hlim
  go_enter Try.func52, Try.ntmps52
  go_wp2_with fail
  refine (Q1.out _).mono ?_
  rintro e w' ⟨rfl, rfl⟩
  go_wp2_with fail
  refine Q2.out.mono ?_
  rintro e w2 ⟨rfl, d', h1, h2, s2⟩
  have S2 := Lib.hid (show ∃ d', PermIn 0 n d d' ∧ SortedIn ltU 0 n d' ∧ St B w0 w2 (arr g d' X * R) from ⟨d', h1, h2, s2⟩)
  clear h1 h2 s2 Q2
  go_wp2_with fail
  first | go_end0 | refine bodyPost_ret (results_none rfl _ _ _) rfl ?_
  exact ⟨rfl, S2.out⟩
end
end Go.Proofs.Ytjnfhppjkadlpaa.SrA

set_option linter.unusedSimpArgs false
set_option linter.unusedVariables false
namespace Go.Proofs.Ytjnfhppjkadlpaa.Cnc
open Go Go.RowKit Go.Proofs.Ytjnfhppjkadlpaa Go.Proofs.Ytjnfhppjkadlpaa.Sp Go.Proofs.Ytjnfhppjkadlpaa.Reg Go.Proofs.Ytjnfhppjkadlpaa.SlW
set_option maxHeartbeats 800000 in
theorem grow_calls (n : Nat) (w : World) (hn : n ≤ 1000000) {B : Nat} {w0 : World} {R : HP} (s : St B w0 w R) :
    Calls Try.prog 67 #[.slice none 0 0, .int .i64 n] w (NewB B w0 R [] (n = 0)) := by
  have S := Lib.hid (s.rowNil 5 1)
  clear s
  by_cases h0 : n = 0
  · subst h0
    have hsl : ∀ w, (Instr.sliceAt 32 (.slice none 0 0) none (some (.int .i64 0)) none).run Try.prog w = .ok (.slice none 0 0) w := fun w => by
      have := run_slice_sl tB w none 0 0 none (some (.int .i64 0)) 0 0 (.inl ⟨rfl, rfl⟩) (.inr ⟨_, rfl⟩) (by omega) (by omega)
      simpa using this
    go_enter Try.func67, Try.ntmps67
    go_wp2_with fail
    go_ret
    exact ⟨_, rfl, S.out, by simp⟩
  · have hsl : ∀ w, (Instr.sliceAt 32 (.slice none 0 0) none (some (.int .i64 0)) none).run Try.prog w = .ok (.slice none 0 0) w := fun w => by
      have := run_slice_sl tB w none 0 0 none (some (.int .i64 0)) 0 0 (.inl ⟨rfl, rfl⟩) (.inr ⟨_, rfl⟩) (by omega) (by omega)
      simpa using this
    have hsl2 : ∀ w a m c, (Instr.sliceAt 32 (.slice (some a) m c) none (some (.int .i64 0)) none).run Try.prog w = .ok (.slice (some a) 0 c) w := fun w a m c => by
      have := run_slice_sl tB w (some a) m c none (some (.int .i64 0)) 0 0 (.inl ⟨rfl, rfl⟩) (.inr ⟨_, rfl⟩) (by omega) (by omega)
      simpa [Addr.add] using this
    have hpos : 0 < n := by omega
    go_enter Try.func67, Try.ntmps67
    go_wp2_with (at_builtin; go_must (refine wpl_appendZ rfl _ _ rfl tB rfl rfl Try.underlying3 S.out n rfl rfl (by unfold maxLen; omega) (by omega) ?_); intro v2 w2 s2 hv2; obtain ⟨g, cap, rfl, hnc, -, -, hsh⟩ := s2.rowSome (fun e => by have := (hv2.1 e).2; omega); have T := Lib.hid (hsh 0 (Nat.zero_le _)); have hx := fun w => hsl2 w ⟨g, 0, none⟩ (0 + n) cap; clear hsh hnc s2 hv2 S hsl2)
    go_ret
    exact ⟨_, rfl, by simpa using T.out, by simp [h0]⟩
/-- The first k, one behind the other. -/
def cat (bss : List (List UInt8)) (k : Nat) : List UInt8 := (bss.take k).flatten
def catLen (bss : List (List UInt8)) (k : Nat) : Nat := (cat bss k).length
theorem cat_succ (l : List (List UInt8)) (k : Nat) (h : k < l.length) : cat l (k + 1) = cat l k ++ l[k] := by
  unfold cat; rw [List.take_succ_eq_append_getElem h, List.flatten_append, List.flatten_cons, List.flatten_nil, List.append_nil]
theorem catLen_succ (l : List (List UInt8)) (k : Nat) (h : k < l.length) : catLen l (k + 1) = catLen l k + l[k].length := by
  unfold catLen; rw [cat_succ l k h, List.length_append]
theorem cat_zero (l : List (List UInt8)) : cat l 0 = [] := rfl
theorem catLen_zero (l : List (List UInt8)) : catLen l 0 = 0 := rfl
theorem catLen_mono (l : List (List UInt8)) (n : Nat) (hn : n ≤ l.length) : ∀ d k, k + d = n → catLen l k ≤ catLen l n
  | 0, k, h => by rw [show k = n by omega]; exact Nat.le_refl _
  | d + 1, k, h => Nat.le_trans (by rw [catLen_succ l k (by omega)]; omega) (catLen_mono l n hn d (k + 1) (by omega))
/-- A new row of these bytes. -/
def NewB' (B : Nat) (w0 : World) (R : HP) (bs : List UInt8) (e : Ending) (w' : World) : Prop := ∃ v', e = .returned v' ∧ St B w0 w' (row 5 1 v' bs.length (bvs bs) * R)
set_option maxHeartbeats 1600000 in
theorem concat_calls (A : Option Addr) (cA : Nat) (bss : List (List UInt8)) (w : World) (h : BSS w (.slice A bss.length cA) bss) (hn : catLen bss bss.length ≤ 1000000) :
    Calls Try.prog 51 #[.slice A bss.length cA] w (NewB' w.heap.size w emp (cat bss bss.length)) := by
  obtain ⟨A', c', vs, e, hr, hlv, hlc, hcm, hnone, hb⟩ := h
  cases e
  have hm : bss.length ≤ 9223372036854775807 := by unfold maxLen at hcm; omega
  have HR := Lib.hid hr
  have HLV := Lib.hid hlv
  have HB := Lib.hid hb
  clear hr hlv hb hlc hcm hnone
  go_enter Try.func51, Try.ntmps51
  go_wp2_with fail
  go_loop [3, 5, 11] (fun v _ i => ∃ k : Nat, k ≤ bss.length ∧ i = .int .i64 k ∧ v = .int .i64 (catLen bss k : Int)) (fun _ _ i => bss.length - (intOf i).toNat)
  case atStart => exact ⟨0, by omega, rfl, rfl⟩
  case round =>
    obtain ⟨k, hk, rfl, rfl⟩ := hrel
    by_cases hlt : k < bss.length
    · obtain ⟨v, hvk, a, c, rfl, -, -, -, -⟩ := HB.out k hlt
      obtain ⟨b, off, rfl, hc⟩ := HR.out.at (by have := HLV.out; rintro rfl; rw [List.length_nil] at this; omega)
      have hcell := hc k _ hvk
      have h1 := catLen_mono bss bss.length (Nat.le_refl _) (bss.length - (k + 1)) (k + 1) (by omega)
      have h3 := catLen_succ bss k hlt
      have h4 : 0 ≤ (catLen bss k : Int) + (bss[k].length : Int) := by omega
      have h5 : (catLen bss k : Int) + (bss[k].length : Int) ≤ 1000000 := by omega
      have H3 := Lib.hid h3
      clear hc hvk HB HR HLV h1 h3
      go_wp2_with fail
      go_round
      case rel => exact ⟨k + 1, by omega, by go_num, by rw [H3.out]; go_num⟩
      case measure => simp [intOf]; omega
    · obtain rfl : k = bss.length := by omega
      clear hlt hk
      go_wp2_with fail
      refine (grow_calls _ _ hn (St.init w)).mono ?_
      rintro e w1 ⟨v1, rfl, s1, n1⟩
      have S1 := Lib.hid s1
      clear s1 n1
      go_wp2_with fail
      go_loopw [6, 8, 27] (fun v _ i wr => ∃ k : Nat, k ≤ bss.length ∧ i = .int .i64 k ∧ St w.heap.size w wr (row 5 1 v (catLen bss k) (bvs (cat bss k)) * emp)) (fun _ _ i _ => bss.length - (intOf i).toNat)
      case atStart => exact ⟨0, by omega, rfl, S1.out⟩
      case round =>
        obtain ⟨k, hk, rfl, hs⟩ := hrel
        have HS := Lib.hid hs
        clear hs
        by_cases hlt : k < bss.length
        · obtain ⟨v, hvk, a, c, rfl, hb1, hb2, hb3, hb4⟩ := HB.out k hlt
          obtain ⟨b, off, rfl, hc⟩ := (HR.out.below HS.out.below).at (by have := HLV.out; rintro rfl; rw [List.length_nil] at this; omega)
          have hcell := hc k _ hvk
          have hrd := Lib.hid (hb4.below HS.out.below)
          have h1 := catLen_mono bss bss.length (Nat.le_refl _) (bss.length - (k + 1)) (k + 1) (by omega)
          have h3 := catLen_succ bss k hlt
          have h4 : catLen bss k + bss[k].length ≤ 1000000 := by omega
          have H3 := Lib.hid h3
          have H4 := Lib.hid (cat_succ bss k hlt)
          have HN := Lib.hid hb3
          clear hc hvk HB HR HLV h1 h3 hb1 hb2 hb3 hb4
          go_wp2_with (at_builtin; go_must (refine wpl_append rfl _ _ rfl tB HS.out a bss[k].length c (bvs bss[k]) rfl rfl hrd.out HN.out (by simp) (bvs_one _) (by unfold maxLen; omega) (by omega) ?_); intro v5 w5 s5 hv5; have S5 := Lib.hid s5; clear s5 hv5 HS hrd)
          go_roundw
          case rel => exact ⟨k + 1, by omega, by go_num, by rw [H3.out, H4.out]; simpa [bvs] using S5.out⟩
          case measure => simp [intOf]; omega
        · obtain rfl : k = bss.length := by omega
          go_wp2_with fail
          go_ret
          exact ⟨_, rfl, HS.out⟩
end Go.Proofs.Ytjnfhppjkadlpaa.Cnc
