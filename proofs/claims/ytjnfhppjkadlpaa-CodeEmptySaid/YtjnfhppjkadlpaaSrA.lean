/- Go's sort of a row of bytes that one owns: the row, Less, the insertion sort. No condition. -/
import Derived.Test.YtjnfhppjkadlpaaSp
import Derived.Test.YtjnfhppjkadlpaaSlW
import Derived.Sort.AssemblyPlain
import Derived.CellFam
import Derived.BigGuard
import Derived.BigCall
import Derived.BigQuiet
import Derived.Deep.Draws
import Derived.Deep.QuietTactic
set_option linter.unusedSimpArgs false
set_option linter.unusedVariables false
namespace Go.Proofs.Ytjnfhppjkadlpaa.SrA
open Go Go.RowKit Go.Sort Go.Proofs.Ytjnfhppjkadlpaa Go.Proofs.Ytjnfhppjkadlpaa.Sp
/-- Less, at bytes. -/
def ltU (x y : UInt8) : Bool := decide (x.toNat < y.toNat)
/-- The cells of a row, and what stands behind it. -/
def ac (d : Array UInt8) (X : List Value) : Array Value := (bvs d.toList ++ X).toArray
/-- A row of bytes at the head of its block. -/
def arr (g : Nat) (d : Array UInt8) (X : List Value) : HP := pts g (.cells (ac d X) 5 (0, 0))
theorem ac_get {d : Array UInt8} {X : List Value} {t : Nat} (h : t < d.size) : (ac d X)[t]? = some (bv d[t]!) := by
  have h1 : t < d.toList.length := by simpa using h
  simp [ac, List.getElem?_append, h, getElem!_pos]
theorem ac_set {d : Array UInt8} {X : List Value} {t : Nat} (h : t < d.size) (x : UInt8) : (ac d X).setIfInBounds t (bv x) = ac (d.setIfInBounds t x) X := by
  simp [ac, List.set_append, h, bvs, List.map_set]
section
variable {B : Nat} {w0 w : World} {R : HP} {g : Nat} {d : Array UInt8} {X : List Value}
theorem arr_fam (s : St B w0 w (arr g d X * R)) : ∀ t, t < d.size → w.cell? ⟨g, t, none⟩ = some (.int .u8 ((d[t]!).toNat : Int)) := fun t ht => by
  exact (St.cell s t).trans (ac_get ht)
theorem arr_free (s : St B w0 w (arr g d X * R)) : ∀ t, t < d.size → w.frozen? ⟨g, t, none⟩ = false := fun t _ => St.free s t
theorem arr_swp {n i j : Nat} (hi : i < d.size) (hj : j < d.size) (s : St B w0 w (arr g d X * R)) :
    St B w0 (((w.drewN n).setCell ⟨g, i, none⟩ (bv d[j]!)).setCell ⟨g, j, none⟩ (bv d[i]!)) (arr g (swp d i j) X * R) := by
  have q := (St.set (St.set (s.drewN n) i (bv d[j]!)) j (bv d[i]!))
  rw [ac_set hi, ac_set (by simpa using hj)] at q
  exact q
end
theorem nan_calls (x : UInt8) (w : World) : Calls Try.prog 101 #[bv x] w fun e w' => e = .returned (.bool false) ∧ w' = w := by
  go_enter Try.func101, Try.ntmps101
  go_wp2_with fail
  go_ret
  exact ⟨by simp, rfl⟩
theorem less_calls (x y : UInt8) (w : World) : Calls Try.prog 83 #[bv x, bv y] w fun e w' => e = .returned (.bool (ltU x y)) ∧ w' = w := by
  go_enter Try.func83, Try.ntmps83
  go_wp2_with (go_at_call 101; refine (nan_calls _ _).mono ?_; rintro e w' ⟨rfl, rfl⟩)
  go_ret
  exact ⟨rfl, rfl⟩
/-! ### the insertion sort: what a round does -/
section
variable {α : Type} [Inhabited α] (lt : α → α → Bool)
theorem insI_go (a j : Nat) (d : Array α) (hj : a < j) (hl : lt d[j]! d[j - 1]! = true) : insInner lt a j d = insInner lt a (j - 1) (swp d j (j - 1)) := by
  obtain ⟨k, rfl⟩ : ∃ k, j = k + 1 := ⟨j - 1, by omega⟩
  conv => lhs; unfold insInner
  rw [Nat.add_sub_cancel] at hl ⊢
  rw [if_pos (by simp [hl]; omega)]
theorem insI_end (a j : Nat) (d : Array α) (h : j ≤ a ∨ lt d[j]! d[j - 1]! = false) : insInner lt a j d = d := by
  cases j with
  | zero => rfl
  | succ k =>
    unfold insInner
    rw [Nat.add_sub_cancel] at h
    refine if_neg ?_
    rcases h with h | h
    · simp; intro; omega
    · simp [h]
theorem insO_go (a b i : Nat) (d : Array α) (h : i < b) : insOuter lt a b i d = insOuter lt a b (i + 1) (insInner lt a i d) := by conv => lhs; unfold insOuter; rw [if_pos h]
theorem insO_end (a b i : Nat) (d : Array α) (h : ¬ i < b) : insOuter lt a b i d = d := by unfold insOuter; rw [if_neg h]
end
section
variable {B : Nat} {w0 : World} {R : HP}
set_option maxRecDepth 100000 in
set_option maxHeartbeats 4000000 in
theorem ins_calls (g n c a b : Nat) (d : Array UInt8) (X : List Value) (hn : d.size = n) (hs : n ≤ 1000000) (hab : a ≤ b) (hb : b ≤ n) (w : World) (s : St B w0 w (arr g d X * R)) :
    Calls Try.prog 77 #[.slice (some ⟨g, 0, none⟩) n c, .int .i64 a, .int .i64 b] w fun e w' => e = .returned (.tuple #[]) ∧ St B w0 w' (arr g (insertionSort ltU d a b) X * R) := by
  have S := Lib.hid s
  have Hn := Lib.hid hn
  clear s hn
  go_enter Try.func77, Try.ntmps77
  go_wp2_with fail
  go_loopw [6] (fun vi wr => ∃ (i : Nat) (dk : Array UInt8), vi = .int .i64 i ∧ a < i ∧ i ≤ b + 1 ∧ dk.size = n ∧ insOuter ltU a b i dk = insertionSort ltU d a b ∧ St B w0 wr (arr g dk X * R)) (fun vi _ => b + 1 - (intOf vi).toNat)
  case atStart => exact ⟨a + 1, d, by go_num, by omega, by omega, Hn.out, rfl, S.out⟩
  case round =>
    obtain ⟨i, dk, rfl, hai, hib, hsk, hO, s1⟩ := hrel
    clear S
    by_cases hlt : i < b
    · have hltI : (i : Int) < (b : Int) := by omega
      have HO := Lib.hid ((insO_go ltU a b i dk hlt).symm.trans hO)
      have S1 := Lib.hid s1
      have HSK := Lib.hid hsk
      clear hO s1 hsk
      go_wp2_with fail
      go_loopw [7] (fun vj wr2 => ∃ (j : Nat) (dj : Array UInt8), vj = .int .i64 j ∧ a ≤ j ∧ j ≤ i ∧ dj.size = n ∧ insInner ltU a j dj = insInner ltU a i dk ∧ St B w0 wr2 (arr g dj X * R)) (fun vj _ => (intOf vj).toNat)
      case atStart => exact ⟨i, dk, rfl, by omega, Nat.le_refl _, HSK.out, rfl, S1.out⟩
      case round =>
        obtain ⟨j, dj, rfl, haj, hji, hsj, hI, s2⟩ := hrel
        clear S1
        obtain ⟨G, hG⟩ : ∃ G : Nat → UInt8, ∀ t, G t = dj[t]! := ⟨fun t => dj[t]!, fun _ => rfl⟩
        have HG := Lib.hid hG
        have HSJ := Lib.hid hsj
        have S2 := Lib.hid s2
        by_cases hja : a < j
        · have c1 := arr_fam s2 j (by omega)
          have c2 := arr_fam s2 (j - 1) (by omega)
          have f1 := arr_free s2 j (by omega)
          have f2 := arr_free s2 (j - 1) (by omega)
          rw [← hG] at c1 c2
          cases hl : ltU (G j) (G (j - 1)) with
          | true =>
            have HL := Lib.hid (hl)
            have HI := Lib.hid ((insI_go ltU a j dj hja (by rw [← hG, ← hG]; exact hl)).symm.trans hI)
            clear hsj hG s2 hI
            go_wp2_with fail
            go_quiet (first | (go_at_call 83; refine Calls.quiet_of_same (less_calls _ _ _)))
            go_wp2_with fail
            clear hl
            go_region
            all_goals go_wp2_with fail
            go_roundw
            case rel =>
              have hz := HSJ.out
              refine ⟨j - 1, swp dj j (j - 1), by congr 1; omega, by omega, by omega, by rw [size_swp]; exact HSJ.out, HI.out, ?_⟩
              rw [HG.out, HG.out]
              exact arr_swp (by omega) (by omega) S2.out
            case measure => (simp [intOf] <;> omega)
          | false =>
            have HI := Lib.hid ((insI_end ltU a j dj (.inr (by rw [← hG, ← hG]; exact hl))).symm.trans hI)
            clear hsj hG s2 hI
            go_wp2_with fail
            go_quiet (first | (go_at_call 83; refine Calls.quiet_of_same (less_calls _ _ _)))
            go_wp2_with fail
            go_roundw
            case rel => exact ⟨i + 1, dj, by go_num, by omega, by omega, HSJ.out, by rw [HI.out]; exact HO.out, S2.out.drewN _⟩
            case measure => (simp [intOf] <;> omega)
        · have HI := Lib.hid ((insI_end ltU a j dj (.inl (by omega))).symm.trans hI)
          clear hsj hG s2 hI
          go_wp2_with fail
          go_quiet (first | (go_at_call 83; refine Calls.quiet_of_same (less_calls _ _ _)))
          go_wp2_with fail
          go_roundw
          case rel => exact ⟨i + 1, dj, by go_num, by omega, by omega, HSJ.out, by rw [HI.out]; exact HO.out, S2.out.drewN _⟩
          case measure => (simp [intOf] <;> omega)
    · have E := Lib.hid ((insO_end ltU a b i dk hlt).symm.trans hO)
      have S1 := Lib.hid s1
      have hge : ¬ (i : Int) < (b : Int) := by omega
      clear hO s1 hsk
      go_wp2_with fail
      go_end0
      exact ⟨rfl, by rw [← E.out]; exact S1.out⟩
end
end Go.Proofs.Ytjnfhppjkadlpaa.SrA
