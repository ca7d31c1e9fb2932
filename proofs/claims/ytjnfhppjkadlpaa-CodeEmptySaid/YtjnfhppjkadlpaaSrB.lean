/- Go's sort of a row of bytes: the heap, the range turned about. No condition. -/
import Derived.Test.YtjnfhppjkadlpaaSrA
set_option linter.unusedSimpArgs false
set_option linter.unusedVariables false
namespace Go.Proofs.Ytjnfhppjkadlpaa.SrA
open Go Go.RowKit Go.Sort Go.Proofs.Ytjnfhppjkadlpaa Go.Proofs.Ytjnfhppjkadlpaa.Sp
section
variable {α : Type} [Inhabited α] (lt : α → α → Bool)
theorem sd_end (hi first root : Nat) (d : Array α) (h : hi ≤ 2 * root + 1) : siftDown lt hi first root d = d := by unfold siftDown; rw [dif_pos h]
theorem sd_right {hi first root : Nat} {d : Array α} (h : 2 * root + 2 < hi) (hl : lt d[first + (2 * root + 1)]! d[first + (2 * root + 2)]! = true) :
    siftDown lt hi first root d = if lt d[first + root]! d[first + (2 * root + 2)]! = true then siftDown lt hi first (2 * root + 2) (swp d (first + root) (first + (2 * root + 2))) else d := by
  conv => lhs; unfold siftDown
  rw [dif_neg (by omega), if_pos (by simp only [Bool.and_eq_true, decide_eq_true_eq]; exact ⟨by omega, hl⟩)]
  cases h2 : lt d[first + root]! d[first + (2 * root + 2)]!
  · rfl
  · rw [if_neg (by simp), dif_pos h, if_pos rfl]
theorem sd_left {hi first root : Nat} {d : Array α} (h : 2 * root + 1 < hi) (hl : ¬ 2 * root + 2 < hi ∨ lt d[first + (2 * root + 1)]! d[first + (2 * root + 2)]! = false) :
    siftDown lt hi first root d = if lt d[first + root]! d[first + (2 * root + 1)]! = true then siftDown lt hi first (2 * root + 1) (swp d (first + root) (first + (2 * root + 1))) else d := by
  conv => lhs; unfold siftDown
  rw [dif_neg (by omega), if_neg (by
    simp only [Bool.and_eq_true, decide_eq_true_eq]
    rintro ⟨g1, g2⟩
    rcases hl with hl | hl
    · omega
    · rw [show first + (2 * root + 2) = first + (2 * root + 1) + 1 by omega, g2] at hl; cases hl)]
  cases h2 : lt d[first + root]! d[first + (2 * root + 1)]!
  · rfl
  · rw [if_neg (by simp), if_pos rfl]
end
section
variable {B : Nat} {w0 : World} {R : HP}
set_option maxRecDepth 100000 in
set_option maxHeartbeats 8000000 in
theorem sift_calls (g n c lo hi first : Nat) (d : Array UInt8) (X : List Value) (hn : d.size = n) (hs : n ≤ 1000000) (hlo : lo ≤ hi) (hb : first + hi ≤ n) (w : World) (s : St B w0 w (arr g d X * R)) :
    Calls Try.prog 96 #[.slice (some ⟨g, 0, none⟩) n c, .int .i64 lo, .int .i64 hi, .int .i64 first] w fun e w' => e = .returned (.tuple #[]) ∧ St B w0 w' (arr g (siftDown ltU hi first lo d) X * R) := by
  have S := Lib.hid s
  have Hn := Lib.hid hn
  clear s hn
  go_enter Try.func96, Try.ntmps96
  go_wp2_with fail
  go_loopw [8] (fun vi wr => ∃ (root : Nat) (dk : Array UInt8), vi = .int .i64 root ∧ lo ≤ root ∧ root ≤ hi ∧ dk.size = n ∧ siftDown ltU hi first root dk = siftDown ltU hi first lo d ∧ St B w0 wr (arr g dk X * R)) (fun vi _ => hi - (intOf vi).toNat)
  case atStart => exact ⟨lo, d, rfl, Nat.le_refl _, hlo, Hn.out, rfl, S.out⟩
  case round =>
    obtain ⟨root, dk, rfl, hlr, hrh, hsk, hO, s1⟩ := hrel
    clear S
    have S1 := Lib.hid s1
    have HSK := Lib.hid hsk
    by_cases h0 : hi ≤ 2 * root + 1
    · have HE := Lib.hid ((sd_end ltU hi first root dk h0).symm.trans hO)
      have h0I : (hi : Int) ≤ 2 * (root : Int) + 1 := by omega
      clear hO s1 hsk
      go_wp2_with fail
      go_end0
      exact ⟨rfl, by rw [← HE.out]; exact S1.out⟩
    · have h0I : 2 * (root : Int) + 1 < (hi : Int) := by omega
      obtain ⟨G, hG⟩ : ∃ G : Nat → UInt8, ∀ t, G t = dk[t]! := ⟨fun t => dk[t]!, fun _ => rfl⟩
      have HG := Lib.hid hG
      have HF := Lib.hid (fun w' (s : St B w0 w' (arr g dk X * R)) t (ht : t < n) => show w'.cell? ⟨g, t, none⟩ = some (.int .u8 ((G t).toNat : Int)) ∧ w'.frozen? ⟨g, t, none⟩ = false from ⟨by rw [hG]; exact arr_fam s t (by omega), arr_free s t (by omega)⟩)
      have c0 := (HF.out _ s1 (first + root) (by omega)).1
      have c1 := (HF.out _ s1 (first + (2 * root + 1)) (by omega)).1
      by_cases h1 : 2 * root + 2 < hi
      · have h1I : 2 * (root : Int) + 1 + 1 < (hi : Int) := by omega
        have c2 : wr.cell? ⟨g, first + (2 * root + 1) + 1, none⟩ = some (.int .u8 ((G (first + (2 * root + 1 + 1))).toNat : Int)) := by rw [show first + (2 * root + 1) + 1 = first + (2 * root + 1 + 1) by omega]; exact (HF.out _ s1 (first + (2 * root + 1 + 1)) (by omega)).1
        cases hl : ltU (G (first + (2 * root + 1))) (G (first + (2 * root + 1 + 1))) with
        | true =>
          have HQ := Lib.hid ((sd_right ltU h1 (by rw [← hG, ← hG]; exact hl)).symm.trans hO)
          clear hO s1 hsk hG
          go_wp2_with fail
          go_quiet (first | (go_at_call 83; refine Calls.quiet_of_same (less_calls _ _ _)))
          clear hl c2 c0 c1
          have S2 := Lib.hid (S1.out.drewN nq)
          generalize wr.drewN nq = wr2 at S2 ⊢
          clear S1
          obtain ⟨c0, f0⟩ := HF.out _ S2.out (first + root) (by omega)
          obtain ⟨c1, f1⟩ := HF.out _ S2.out (first + (2 * root + 1 + 1)) (by omega)
          go_wp2_with fail
          cases hl2 : ltU (G (first + root)) (G (first + (2 * root + 1 + 1))) with
          | true =>
            have HE := Lib.hid (show siftDown ltU hi first (2 * root + 1 + 1) (swp dk (first + root) (first + (2 * root + 1 + 1))) = siftDown ltU hi first lo d from by rw [← HQ.out, if_pos (by rw [← HG.out, ← HG.out]; exact hl2)])
            go_wp2_with fail
            go_quiet (first | (go_at_call 83; refine Calls.quiet_of_same (less_calls _ _ _)))
            go_wp2_with fail
            clear hl2
            go_region
            all_goals go_wp2_with fail
            go_roundw
            case rel =>
              have hz := HSK.out
              refine ⟨2 * root + 1 + 1, swp dk (first + root) (first + (2 * root + 1 + 1)), by congr 1 <;> push_cast <;> omega, by omega, by omega, by rw [size_swp]; exact HSK.out, HE.out, ?_⟩
              rw [HG.out, HG.out]
              exact arr_swp (by omega) (by omega) S2.out
            case measure => (simp [intOf] <;> omega)
          | false =>
            have HE := Lib.hid (show dk = siftDown ltU hi first lo d from by rw [← HQ.out, if_neg (by rw [← HG.out, ← HG.out, hl2]; simp)])
            go_wp2_with fail
            go_quiet (first | (go_at_call 83; refine Calls.quiet_of_same (less_calls _ _ _)))
            go_wp2_with fail
            refine bodyPost_ret (results_none rfl _ _ _) rfl ?_
            exact ⟨rfl, by rw [← HE.out]; exact S2.out.drewN _⟩
        | false =>
          have HQ := Lib.hid ((sd_left ltU (by omega) (.inr (by rw [← hG, ← hG]; exact hl))).symm.trans hO)
          clear hO s1 hsk hG
          go_wp2_with fail
          go_quiet (first | (go_at_call 83; refine Calls.quiet_of_same (less_calls _ _ _)))
          clear hl c2 c0 c1
          have S2 := Lib.hid (S1.out.drewN nq)
          generalize wr.drewN nq = wr2 at S2 ⊢
          clear S1
          obtain ⟨c0, f0⟩ := HF.out _ S2.out (first + root) (by omega)
          obtain ⟨c1, f1⟩ := HF.out _ S2.out (first + (2 * root + 1)) (by omega)
          go_wp2_with fail
          cases hl2 : ltU (G (first + root)) (G (first + (2 * root + 1))) with
          | true =>
            have HE := Lib.hid (show siftDown ltU hi first (2 * root + 1) (swp dk (first + root) (first + (2 * root + 1))) = siftDown ltU hi first lo d from by rw [← HQ.out, if_pos (by rw [← HG.out, ← HG.out]; exact hl2)])
            go_wp2_with fail
            go_quiet (first | (go_at_call 83; refine Calls.quiet_of_same (less_calls _ _ _)))
            go_wp2_with fail
            clear hl2
            go_region
            all_goals go_wp2_with fail
            go_roundw
            case rel =>
              have hz := HSK.out
              refine ⟨2 * root + 1, swp dk (first + root) (first + (2 * root + 1)), by congr 1 <;> push_cast <;> omega, by omega, by omega, by rw [size_swp]; exact HSK.out, HE.out, ?_⟩
              rw [HG.out, HG.out]
              exact arr_swp (by omega) (by omega) S2.out
            case measure => (simp [intOf] <;> omega)
          | false =>
            have HE := Lib.hid (show dk = siftDown ltU hi first lo d from by rw [← HQ.out, if_neg (by rw [← HG.out, ← HG.out, hl2]; simp)])
            go_wp2_with fail
            go_quiet (first | (go_at_call 83; refine Calls.quiet_of_same (less_calls _ _ _)))
            go_wp2_with fail
            refine bodyPost_ret (results_none rfl _ _ _) rfl ?_
            exact ⟨rfl, by rw [← HE.out]; exact S2.out.drewN _⟩
      · have h1I : decide (2 * (root : Int) + 1 + 1 < (hi : Int)) = false := decide_eq_false (by omega)
        have HQ := Lib.hid ((sd_left ltU (by omega) (.inl h1)).symm.trans hO)
        clear hO s1 hsk hG
        go_wp2_with fail
        go_quiet (first | (go_at_call 83; refine Calls.quiet_of_same (less_calls _ _ _)))
        clear h1I c0 c1
        have S2 := Lib.hid (S1.out.drewN nq)
        generalize wr.drewN nq = wr2 at S2 ⊢
        clear S1
        obtain ⟨c0, f0⟩ := HF.out _ S2.out (first + root) (by omega)
        obtain ⟨c1, f1⟩ := HF.out _ S2.out (first + (2 * root + 1)) (by omega)
        go_wp2_with fail
        cases hl2 : ltU (G (first + root)) (G (first + (2 * root + 1))) with
        | true =>
          have HE := Lib.hid (show siftDown ltU hi first (2 * root + 1) (swp dk (first + root) (first + (2 * root + 1))) = siftDown ltU hi first lo d from by rw [← HQ.out, if_pos (by rw [← HG.out, ← HG.out]; exact hl2)])
          go_wp2_with fail
          go_quiet (first | (go_at_call 83; refine Calls.quiet_of_same (less_calls _ _ _)))
          go_wp2_with fail
          clear hl2
          go_region
          all_goals go_wp2_with fail
          go_roundw
          case rel =>
            have hz := HSK.out
            refine ⟨2 * root + 1, swp dk (first + root) (first + (2 * root + 1)), by congr 1 <;> push_cast <;> omega, by omega, by omega, by rw [size_swp]; exact HSK.out, HE.out, ?_⟩
            rw [HG.out, HG.out]
            exact arr_swp (by omega) (by omega) S2.out
          case measure => (simp [intOf] <;> omega)
        | false =>
          have HE := Lib.hid (show dk = siftDown ltU hi first lo d from by rw [← HQ.out, if_neg (by rw [← HG.out, ← HG.out, hl2]; simp)])
          go_wp2_with fail
          go_quiet (first | (go_at_call 83; refine Calls.quiet_of_same (less_calls _ _ _)))
          go_wp2_with fail
          refine bodyPost_ret (results_none rfl _ _ _) rfl ?_
          exact ⟨rfl, by rw [← HE.out]; exact S2.out.drewN _⟩
set_option maxRecDepth 100000 in
set_option maxHeartbeats 4000000 in
theorem rev_calls (g n c a b : Nat) (d : Array UInt8) (X : List Value) (hn : d.size = n) (hs : n ≤ 1000000) (hab : a < b) (hb : b ≤ n) (w : World) (s : St B w0 w (arr g d X * R)) :
    Calls Try.prog 81 #[.slice (some ⟨g, 0, none⟩) n c, .int .i64 a, .int .i64 b] w fun e w' => e = .returned (.tuple #[]) ∧ St B w0 w' (arr g (reverseRange d a b) X * R) := by
  have S := Lib.hid s
  have Hn := Lib.hid hn
  clear s hn
  go_enter Try.func81, Try.ntmps81
  go_wp2_with fail
  go_loopw [6, 7] (fun vi vj wr => ∃ (i j : Nat) (dk : Array UInt8), vi = .int .i64 i ∧ vj = .int .i64 j ∧ j < b ∧ i ≤ b ∧ dk.size = n ∧ reverseLoop i j dk = reverseRange d a b ∧ St B w0 wr (arr g dk X * R)) (fun vi _ _ => b - (intOf vi).toNat)
  case atStart => exact ⟨a, b - 1, d, rfl, by congr 1; omega, by omega, by omega, Hn.out, rfl, S.out⟩
  case round =>
    obtain ⟨i, j, dk, rfl, rfl, hjb, hib, hsk, hO, s1⟩ := hrel
    clear S
    have S1 := Lib.hid s1
    have HSK := Lib.hid hsk
    by_cases hij : i < j
    · have hijI : (i : Int) < (j : Int) := by omega
      obtain ⟨G, hG⟩ : ∃ G : Nat → UInt8, ∀ t, G t = dk[t]! := ⟨fun t => dk[t]!, fun _ => rfl⟩
      have HG := Lib.hid hG
      have c0 := arr_fam s1 i (by omega)
      have c1 := arr_fam s1 j (by omega)
      have f0 := arr_free s1 i (by omega)
      have f1 := arr_free s1 j (by omega)
      rw [← hG] at c0 c1
      have HE := Lib.hid (show reverseLoop (i + 1) (j - 1) (swp dk i j) = reverseRange d a b from by rw [← hO]; conv => rhs; unfold reverseLoop; rw [if_pos hij])
      clear hO s1 hsk hG
      go_wp2_with fail
      go_region
      all_goals go_wp2_with fail
      go_roundw
      case rel =>
        have hz := HSK.out
        refine ⟨i + 1, j - 1, swp dk i j, by congr 1, by congr 1; omega, by omega, by omega, by rw [size_swp]; exact HSK.out, HE.out, ?_⟩
        rw [HG.out, HG.out]
        exact arr_swp (by omega) (by omega) S1.out
      case measure => (simp [intOf] <;> omega)
    · have hijI : ¬ (i : Int) < (j : Int) := by omega
      have HE := Lib.hid (show dk = reverseRange d a b from by rw [← hO]; unfold reverseLoop; rw [if_neg hij])
      clear hO s1 hsk
      go_wp2_with fail
      go_end0
      exact ⟨rfl, by rw [← HE.out]; exact S1.out⟩
/-! ### the insertion sort that gives up -/
theorem pi_short {lt : UInt8 → UInt8 → Bool} {d : Array UInt8} {a b : Nat} (h : b - a < 50) : partialInsertionSort lt d a b = (d, decide (scanSorted lt d b (a + 1) = b)) := by
  show partialIns lt a b (4 + 1) (a + 1) d = _
  unfold partialIns
  by_cases e : scanSorted lt d b (a + 1) = b
  · simp [e]
  · simp [e, h]
set_option maxRecDepth 100000 in
set_option maxHeartbeats 4000000 in
theorem pins_calls (g n c a b : Nat) (d : Array UInt8) (X : List Value) (hn : d.size = n) (hs : n ≤ 49) (hab : a < b) (hb : b ≤ n) (w : World) (s : St B w0 w (arr g d X * R)) :
    Calls Try.prog 82 #[.slice (some ⟨g, 0, none⟩) n c, .int .i64 a, .int .i64 b] w fun e w' => e = .returned (.bool (partialInsertionSort ltU d a b).2) ∧ (partialInsertionSort ltU d a b).1 = d ∧ St B w0 w' (arr g d X * R) := by
  have hp := pi_short (lt := ltU) (d := d) (show b - a < 50 by omega)
  rw [hp]
  have HP := Lib.hid hp
  obtain ⟨G, hG⟩ : ∃ G : Nat → UInt8, ∀ t, G t = d[t]! := ⟨fun t => d[t]!, fun _ => rfl⟩
  have HG := Lib.hid hG
  have HF := Lib.hid (fun w' (s : St B w0 w' (arr g d X * R)) t (ht : t < n) => show w'.cell? ⟨g, t, none⟩ = some (.int .u8 ((G t).toNat : Int)) from by rw [hG]; exact arr_fam s t (by omega))
  have S := Lib.hid s
  have Hn := Lib.hid hn
  clear s hn
  clear hp hG
  go_enter Try.func82, Try.ntmps82
  go_wp2_with fail
  go_loopw [7, 8] (fun v7 v8 wr => v7 = .int .i64 ((a : Int) + 1) ∧ v8 = .int .i64 0 ∧ St B w0 wr (arr g d X * R)) (fun _ _ _ => 1)
  case atStart => exact ⟨rfl, rfl, S.out⟩
  case round =>
    obtain ⟨rfl, rfl, s1⟩ := hrel
    have S1 := Lib.hid s1
    clear S s1
    go_wp2_with fail
    go_loopw [7] (fun vi wr => ∃ (i : Nat), vi = .int .i64 i ∧ a < i ∧ i ≤ b ∧ scanSorted ltU d b i = scanSorted ltU d b (a + 1) ∧ St B w0 wr (arr g d X * R)) (fun vi _ => b - (intOf vi).toNat)
    case atStart => exact ⟨a + 1, by congr 1, by omega, by omega, rfl, S1.out⟩
    case round =>
      obtain ⟨i, rfl, hai, hib, hO, s2⟩ := hrel
      clear S1
      have S2 := Lib.hid s2
      by_cases hlt : i < b
      · have hltI : (i : Int) < (b : Int) := by omega
        have c0 := HF.out _ s2 i (by omega)
        have c1 := HF.out _ s2 (i - 1) (by omega)
        cases hl : ltU (G i) (G (i - 1)) with
        | true =>
          have hq : scanSorted ltU d b (a + 1) = i := by
            rw [← hO]; unfold scanSorted; rw [if_neg (by rw [← HG.out, ← HG.out, hl]; simp)]
          have hne : ((i : Int) == (b : Int)) = false := by simp; omega
          have hlen : (b : Int) - (a : Int) < 50 := by omega
          have HQ := Lib.hid hq
          clear hO s2 hq
          go_wp2_with fail
          go_quiet (first | (go_at_call 83; refine Calls.quiet_of_same (less_calls _ _ _)))
          go_wp2_with fail
          go_ret
          exact ⟨by rw [HQ.out]; simp; omega, trivial, S2.out.drewN _⟩
        | false =>
          have HQ := Lib.hid (show scanSorted ltU d b (i + 1) = scanSorted ltU d b (a + 1) from by
            rw [← hO]; conv => rhs; unfold scanSorted; rw [if_pos (by rw [← HG.out, ← HG.out, hl]; simpa using hlt)])
          clear hO s2
          go_wp2_with fail
          go_quiet (first | (go_at_call 83; refine Calls.quiet_of_same (less_calls _ _ _)))
          go_wp2_with fail
          go_roundw
          case rel => exact ⟨i + 1, by congr 1, by omega, by omega, HQ.out, S2.out.drewN _⟩
          case measure => (simp [intOf] <;> omega)
      · obtain rfl : i = b := by omega
        have hq : scanSorted ltU d i (a + 1) = i := by
          rw [← hO]; unfold scanSorted; rw [if_neg (by simp)]
        have hltI : decide ((i : Int) < (i : Int)) = false := by simp
        have HQ := Lib.hid hq
        clear hO s2 hq hlt
        go_wp2_with fail
        go_quiet (first | (go_at_call 83; refine Calls.quiet_of_same (less_calls _ _ _)))
        go_wp2_with fail
        go_ret
        exact ⟨by rw [HQ.out]; simp, trivial, S2.out.drewN _⟩
end
end Go.Proofs.Ytjnfhppjkadlpaa.SrA
