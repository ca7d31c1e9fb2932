/- Codes: New. No condition. -/
import Derived.Test.YtjnfhppjkadlpaaMgS
import Derived.Test.YtjnfhppjkadlpaaCdM
import Derived.Test.YtjnfhppjkadlpaaMgG
set_option linter.unusedSimpArgs false
set_option linter.unusedVariables false
namespace Go.Proofs.Ytjnfhppjkadlpaa.Cd
open Go Go.RowKit Go.Sort Go.Proofs.Ytjnfhppjkadlpaa Go.Proofs.Ytjnfhppjkadlpaa.Sp Go.Proofs.Ytjnfhppjkadlpaa.Reg Go.Proofs.Ytjnfhppjkadlpaa.SlW Go.Proofs.Ytjnfhppjkadlpaa.SrA Go.Proofs.Ytjnfhppjkadlpaa.Cnc Go.Proofs.Ytjnfhppjkadlpaa.Gf
abbrev pp (p : Nat) : Value := .pointer (some ⟨p, 0, none⟩)
/-- A row of bytes as an array at the head of its block. -/
theorem row_arr {B : Nat} {w0 w : World} {R : HP} {v : Value} {l : List UInt8} (s : St B w0 w (row 5 1 v l.length (bvs l) * R)) (hne : l ≠ []) :
    ∃ g cap X, v = .slice (some ⟨g, 0, none⟩) l.length cap ∧ l.length ≤ cap ∧ cap ≤ maxLen ∧ St B w0 w (arr g l.toArray X * R) := by
  obtain ⟨-, h⟩ := s.rowOpen
  rcases h with ⟨-, h0, -⟩ | ⟨g, cap, cur, rfl, h1, h2, h3, h4, t⟩
  · exact absurd (List.eq_nil_of_length_eq_zero h0) hne
  · refine ⟨g, cap, cur.toList.drop (l.length * 1), rfl, h1, h2, t.eq ?_⟩
    unfold arr ac
    congr 2
    have e : bvs l.toArray.toList ++ cur.toList.drop (l.length * 1) = cur.toList := by
      rw [show l.toArray.toList = l by simp, ← h4, List.take_append_drop]
    rw [e]
/-! ### Compact -/
section
variable {B : Nat} {w0 : World} {R : HP}
set_option maxRecDepth 100000 in
set_option maxHeartbeats 4000000 in
/-- Of unlike neighbours it is all. -/
theorem compact_id (g n c : Nat) (d : Array UInt8) (X : List Value) (hn : d.size = n) (hs : n ≤ 1000000) (hd : ∀ i, 0 < i → i < n → d[i]! ≠ d[i - 1]!) (w : World) (s : St B w0 w (arr g d X * R)) :
    Calls Try.prog 53 #[.slice (some ⟨g, 0, none⟩) n c] w fun e w' => e = .returned (.slice (some ⟨g, 0, none⟩) n c) ∧ St B w0 w' (arr g d X * R) := by
  obtain ⟨G, hG⟩ : ∃ G : Nat → UInt8, ∀ t, G t = d[t]! := ⟨fun t => d[t]!, fun _ => rfl⟩
  have HF := Lib.hid (fun w' (s : St B w0 w' (arr g d X * R)) t (ht : t < n) => show w'.cell? ⟨g, t, none⟩ = some (.int .u8 ((G t).toNat : Int)) from by rw [hG]; exact arr_fam s t (by omega))
  have HD := Lib.hid (fun i h0 h1 => show ((G i).toNat : Int) ≠ ((G (i - 1)).toNat : Int) from by
    rw [hG, hG]
    intro e
    exact hd i h0 h1 (UInt8.toNat_inj.1 (by exact_mod_cast e)))
  have S := Lib.hid s
  clear s
  clear hG hd hn
  by_cases h2 : n < 2
  · have h2I : (n : Int) < 2 := by omega
    go_enter Try.func53, Try.ntmps53
    go_wp2_with fail
    go_ret
    exact ⟨rfl, S.out⟩
  · have h2I : ¬ (n : Int) < 2 := by omega
    go_enter Try.func53, Try.ntmps53
    go_wp2_with fail
    go_loopw [3] (fun vi wr => ∃ i : Nat, vi = .int .i64 i ∧ 0 < i ∧ i ≤ n ∧ St B w0 wr (arr g d X * R)) (fun vi _ => n - (intOf vi).toNat)
    case atStart => exact ⟨1, rfl, by omega, by omega, S.out⟩
    case round =>
      obtain ⟨i, rfl, h0, hi, s1⟩ := hrel
      clear S
      have S1 := Lib.hid s1
      by_cases hlt : i < n
      · have hltI : (i : Int) < (n : Int) := by omega
        have c0 := HF.out _ s1 i hlt
        have c1 := HF.out _ s1 (i - 1) (by omega)
        have hne := HD.out i h0 hlt
        have hne2 : (((G i).toNat : Int) == ((G (i - 1)).toNat : Int)) = false := by simpa using hne
        clear s1 hne
        go_wp2_with fail
        go_region
        all_goals go_wp2_with fail
        go_roundw
        case rel => exact ⟨i + 1, by go_num, by omega, by omega, S1.out.drewN _⟩
        case measure => (simp [intOf] <;> omega)
      · have hltI : ¬ (i : Int) < (n : Int) := by omega
        clear s1
        go_wp2_with fail
        go_ret
        exact ⟨rfl, S1.out⟩
/-- The code: of these x's and y's, over a field. -/
def cdo (p fb : Nat) (v1 v2 : Value) (xs ys : List UInt8) : HP := pts p (.cells #[pp fb, v1, v2] 95) * (row 5 1 v1 xs.length (bvs xs) * row 5 1 v2 ys.length (bvs ys))
/-- A code of one's own. -/
def cd (p fb : Nat) (xs ys : List UInt8) : HP := exi fun v : Value × Value => cdo p fb v.1 v.2 xs ys
/-- Two rows of bytes, one beside the other. -/
theorem bss2 {w w' : World} {v1 v2 : Value} {l1 l2 : List UInt8} {A : Option Addr} (h : Rd w' A [v1, v2]) (h1 : BS w' v1 l1) (h2 : BS w' v2 l2) (ha : A ≠ none) : BSS w' (.slice A 2 2) [l1, l2] :=
  ⟨A, 2, [v1, v2], rfl, h, rfl, Nat.le_refl _, by unfold maxLen; omega, fun e => absurd e ha, fun i hi => match i, hi with
    | 0, _ => ⟨v1, rfl, h1⟩
    | 1, _ => ⟨v2, rfl, h2⟩
    | i + 2, hi => absurd hi (by simp)⟩
theorem nb_of_perm {n : Nat} {d d' : Array UInt8} (hn : d.size = n) (h : PermIn 0 n d d') (hd : d.toList.Nodup) : ∀ i, 0 < i → i < n → d'[i]! ≠ d'[i - 1]! := by
  obtain ⟨h1, -, h3⟩ := h
  have e1 : d'.extract 0 n = d' := by rw [← hn, ← h1, Array.extract_size]
  have e2 : d.extract 0 n = d := by rw [← hn, Array.extract_size]
  rw [e1, e2] at h3
  have hN := h3.nodup_iff.2 hd
  intro i h0 hi he
  rw [getElem!_pos d' i (by omega), getElem!_pos d' (i - 1) (by omega)] at he
  exact List.pairwise_iff_getElem.1 hN (i - 1) i (by simp; omega) (by simp; omega) (by omega) (by simpa using he.symm)
set_option maxRecDepth 100000 in
set_option maxHeartbeats 8000000 in
theorem new_good (fb : Nat) (a1 a2 : Option Addr) (c1 c2 : Nat) (xs ys : List UInt8) (hg : Good xs ys) (w : World)
    (h1 : ∀ w' H, St B w0 w' (H * R) → BS w' (.slice a1 xs.length c1) xs) (h2 : ∀ w' H, St B w0 w' (H * R) → BS w' (.slice a2 ys.length c2) ys) (s : St B w0 w R) :
    Calls Try.prog 27 #[pp fb, .slice a1 xs.length c1, .slice a2 ys.length c2] w fun e w' => ∃ p, e = .returned (.tuple #[pp p, .int .i64 0]) ∧ St B w0 w' (cd p fb xs ys * R) := by
  obtain ⟨hk1, hk2, hr1, hr2, hnd⟩ := hg
  have i1 : ¬ (xs.length : Int) < 1 := by omega
  have i2 : ¬ (14 : Int) < (xs.length : Int) := by omega
  have i3 : ¬ (ys.length : Int) < 1 := by omega
  have i4 : ¬ (4 : Int) < (ys.length : Int) := by omega
  have S := Lib.hid s
  have H1 := Lib.hid h1
  have H2 := Lib.hid h2
  have HND := Lib.hid hnd
  clear s h1 h2 hnd
  go_enter Try.func27, Try.ntmps27
  go_wp2_with fail
  have s1 := S.out.alloc (.cells #[.slice a1 xs.length c1, .slice a2 ys.length c2] 32)
  have hrd := Rd.new w #[.slice a1 xs.length c1, .slice a2 ys.length c2] 32
  have hb := bss2 (w := w) hrd (H1.out _ _ s1) (H2.out _ _ s1) (by simp)
  generalize w.alloc (.cells #[.slice a1 xs.length c1, .slice a2 ys.length c2] 32) = wa at *
  have e2 : cat [xs, ys] [xs, ys].length = xs ++ ys := by simp [cat]
  refine (concat_calls _ _ [xs, ys] _ hb (by unfold catLen; rw [e2]; simp; omega)).mono ?_
  rintro e w1 ⟨v1, rfl, s2⟩
  rw [e2] at s2
  have s3 := s1.join s2
  clear e2
  have hL : (xs ++ ys).length = xs.length + ys.length := List.length_append
  generalize xs ++ ys = L at *
  obtain ⟨g, cap, X, rfl, hc1, hc2, s4⟩ := row_arr (s3.eq (by simp only [sep_assoc, sep_emp, emp_sep]; rfl)) (by intro e; rw [e] at hL; simp at hL; omega)
  clear s2 s3 hb hrd s1
  generalize hn : L.length = n at *
  have i5 : n ≤ 18 := by omega
  have HL := Lib.hid hL
  have HN := Lib.hid hn
  clear hL hn
  have S4 := Lib.hid s4
  clear s4
  go_wp2_with fail
  refine (sort_calls g n cap L.toArray X (by simpa using HN.out) i5 _ S4.out).mono ?_
  rintro e w2 ⟨rfl, d, hp, -, s5⟩
  clear S4
  have S5 := Lib.hid s5
  clear s5
  go_wp2_with fail
  refine (compact_id g n cap d X (by have := hp.1; have h2 := HN.out; simpa [h2] using this) (by omega) (nb_of_perm (by simpa using HN.out) hp (by simpa using HND.out)) _ S5.out).mono ?_
  rintro e w3 ⟨rfl, s6⟩
  clear S5 hp
  have S6 := Lib.hid s6
  clear s6
  have i6 : (n : Int) = (xs.length : Int) + ys.length := by have := HL.out; omega
  go_wp2_with fail
  refine (clone_calls a1 c1 xs _ (H1.out _ _ (S6.out.right)) (by omega) S6.out).mono ?_
  rintro e w4 ⟨v1, rfl, s7, hv1⟩
  obtain ⟨b1, e1, rfl, -⟩ := s7.rowSlice
  have S7 := Lib.hid s7
  clear s7
  clear S6
  go_wp2_with fail
  refine (clone_calls a2 c2 ys _ (H2.out _ _ (S7.out.right.right)) (by omega) S7.out).mono ?_
  rintro e w5 ⟨v2, rfl, s8, hv2⟩
  obtain ⟨b2, e2, rfl, -⟩ := s8.rowSlice
  have S8 := Lib.hid s8
  clear s8
  clear S7 hv1 hv2
  go_wp2_with fail
  have s9 := S8.out.alloc (.cells #[pp fb, .slice b1 xs.length e1, .slice b2 ys.length e2] 95)
  go_ret2
  refine ⟨_, rfl, St.ex.2 ⟨(.slice b1 xs.length e1, .slice b2 ys.length e2), ?_⟩⟩
  have s10 := s9.eq (Q := (arr g d X * pts w.heap.size (Obj.cells #[Value.slice a1 xs.length c1, Value.slice a2 ys.length c2] 32)) * (cdo w5.heap.size fb (.slice b1 xs.length e1) (.slice b2 ys.length e2) xs ys * R)) (by unfold cdo; ac_rfl)
  exact s10.right
end
end Go.Proofs.Ytjnfhppjkadlpaa.Cd
