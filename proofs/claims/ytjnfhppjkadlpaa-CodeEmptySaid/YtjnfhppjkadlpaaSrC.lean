/- Go's sort of a row of bytes: the partitions. No condition. -/
import Derived.Test.YtjnfhppjkadlpaaSrB
import Derived.Deep.CutBlock
import Derived.Deep.DeepCutAuto
set_option linter.unusedSimpArgs false
set_option linter.unusedVariables false
namespace Go.Proofs.Ytjnfhppjkadlpaa.SrA
open Go Go.RowKit Go.Sort Go.Proofs.Ytjnfhppjkadlpaa Go.Proofs.Ytjnfhppjkadlpaa.Sp
section
variable {α : Type} [Inhabited α]
theorem su_go {p : α → Bool} {d : Array α} {j i : Nat} (h : i ≤ j) (hp : p d[i]! = true) : scanUp p d j i = scanUp p d j (i + 1) := by
  conv => lhs; unfold scanUp
  rw [if_pos (by simp [h, hp])]
theorem su_end {p : α → Bool} {d : Array α} {j i : Nat} (h : ¬ i ≤ j ∨ p d[i]! = false) : scanUp p d j i = i := by
  unfold scanUp
  refine if_neg ?_
  rcases h with h | h
  · simp [h]
  · simp [h]
theorem sn_go {p : α → Bool} {d : Array α} {j i : Nat} (h : i ≤ j) (h0 : 0 < j) (hp : p d[j]! = true) : scanDown p d i j = scanDown p d i (j - 1) := by
  obtain ⟨k, rfl⟩ : ∃ k, j = k + 1 := ⟨j - 1, by omega⟩
  conv => lhs; unfold scanDown
  rw [if_pos (by simp [h, hp])]
  rfl
theorem sn_end {p : α → Bool} {d : Array α} {j i : Nat} (h : ¬ i ≤ j ∨ p d[j]! = false) : scanDown p d i j = j := by
  cases j with
  | zero => rfl
  | succ k =>
    unfold scanDown
    refine if_neg ?_
    rcases h with h | h
    · simp; intro; omega
    · simp [h]
end
/-- A round of a scan upward that is at its end. -/
def SU (p : UInt8 → Bool) (d : Array UInt8) (j i i2 : Nat) : Prop := i2 = scanUp p d j i ∧ i ≤ i2 ∧ i2 ≤ j + 1
def SD (p : UInt8 → Bool) (d : Array UInt8) (i j j2 : Nat) : Prop := j2 = scanDown p d i j ∧ j2 ≤ j ∧ i ≤ j2 + 1
theorem su_sd {p q : UInt8 → Bool} {d : Array UInt8} {i j i2 j2 : Nat} (hq : ∀ x, q x = !p x) (h1 : SU p d j i i2) (h2 : SD q d i2 j j2) (h0 : 0 < i) (hle : i2 ≤ j2) : i2 < j2 := by
  obtain ⟨e1, g1, g2⟩ := h1
  obtain ⟨e2, g3, g4⟩ := h2
  have k1 := (scanUp_spec p d j _ i rfl).2.2.2
  have k2 := (scanDown_spec q d i2 j).2.2.2
  rw [← e1] at k1
  rw [← e2] at k2
  have k3 := k1 (by omega)
  have k4 := k2 hle (by omega)
  by_cases e : i2 = j2
  · rw [← e, hq, k3] at k4
    cases k4
  · omega
theorem pl_step (lt : UInt8 → UInt8 → Bool) {a i j i2 j2 : Nat} {d : Array UInt8} (h1 : SU (fun x => lt x d[a]!) d j i i2) (h2 : SD (fun x => !lt x d[a]!) d i2 j j2) :
    partLoop lt a i j d = if i2 > j2 then (j2, d) else partLoop lt a (i2 + 1) (j2 - 1) (swp d i2 j2) := by
  rw [partLoop_eq]
  simp only [← h1.1, ← h2.1]
theorem pt_eq (lt : UInt8 → UInt8 → Bool) {a b pivot i2 j2 : Nat} {d : Array UInt8} (h1 : SU (fun x => lt x (swp d a pivot)[a]!) (swp d a pivot) (b - 1) (a + 1) i2) (h2 : SD (fun x => !lt x (swp d a pivot)[a]!) (swp d a pivot) i2 (b - 1) j2) :
    partition lt d a b pivot = if i2 > j2 then (j2, true, swp (swp d a pivot) j2 a) else ((partLoop lt a (i2 + 1) (j2 - 1) (swp (swp d a pivot) i2 j2)).1, false, swp (partLoop lt a (i2 + 1) (j2 - 1) (swp (swp d a pivot) i2 j2)).2 (partLoop lt a (i2 + 1) (j2 - 1) (swp (swp d a pivot) i2 j2)).1 a) := by
  unfold partition
  simp only [← h1.1, ← h2.1]
section
variable {B : Nat} {w0 : World} {R : HP}
set_option maxRecDepth 100000 in
set_option maxHeartbeats 16000000 in
theorem part_calls (g n c a b pivot : Nat) (d : Array UInt8) (X : List Value) (hn : d.size = n) (hs : n ≤ 1000000) (hap : a ≤ pivot) (hpb : pivot < b) (hb : b ≤ n) (w : World) (s : St B w0 w (arr g d X * R)) :
    Calls Try.prog 85 #[.slice (some ⟨g, 0, none⟩) n c, .int .i64 a, .int .i64 b, .int .i64 pivot] w fun e w' => e = .returned (.tuple #[.int .i64 (partition ltU d a b pivot).1, .bool (partition ltU d a b pivot).2.1]) ∧ St B w0 w' (arr g (partition ltU d a b pivot).2.2 X * R) := by
  have hsz : (swp d a pivot).size = n := by rw [size_swp]; exact hn
  have HPD := Lib.hid (fun i2 j2 h1 h2 => pt_eq (a := a) (b := b) (pivot := pivot) (i2 := i2) (j2 := j2) (d := d) ltU h1 h2)
  have HSZ := Lib.hid hsz
  have S := Lib.hid s
  have Hn := Lib.hid hn
  clear s hn
  clear hsz
  go_enter Try.func85, Try.ntmps85
  go_upto_region 1 with fail
  go_cut [] from 12 to 25 (fun wx => St B w0 wx (arr g (swp d a pivot) X * R))
  case first =>
    have s7 := S.out
    have hz := Hn.out
    obtain ⟨G7, hG7⟩ : ∃ G : Nat → UInt8, ∀ t, G t = (d)[t]! := ⟨fun t => (d)[t]!, fun _ => rfl⟩
    have c0 := arr_fam s7 a (by omega)
    have c1 := arr_fam s7 pivot (by omega)
    have f0 := arr_free s7 a (by omega)
    have f1 := arr_free s7 pivot (by omega)
    rw [← hG7] at c0 c1
    have HG7 := Lib.hid hG7
    have HB7 := Lib.hid (show a < (d).size ∧ pivot < (d).size from ⟨by omega, by omega⟩)
    by_cases heq : a = pivot
    · clear s7 hz hG7
      first
        | (exfalso; omega)
        | (subst heq
           go_region
           all_goals go_wp2_with fail
           go_meet
           rw [HG7.out]
           exact arr_swp HB7.out.1 HB7.out.2 S.out)
    · clear s7 hz hG7
      go_region
      all_goals go_wp2_with fail
      go_meet
      rw [HG7.out, HG7.out]
      exact arr_swp HB7.out.1 HB7.out.2 S.out
  have S1 := Lib.hid hcut
  clear hcut S
  generalize hd1 : swp d a pivot = d1 at *
  have HD1 := Lib.hid hd1
  clear hd1
  obtain ⟨G1, hG1⟩ : ∃ G : Nat → UInt8, ∀ t, G t = (d1)[t]! := ⟨fun t => (d1)[t]!, fun _ => rfl⟩
  have HG1 := Lib.hid hG1
  have HF1 := Lib.hid (fun w' (s : St B w0 w' (arr g (d1) X * R)) t (ht : t < n) => show w'.cell? ⟨g, t, none⟩ = some (.int .u8 ((G1 t).toNat : Int)) from by rw [hG1]; exact arr_fam s t (by have := HSZ.out; omega))
  clear hG1
  go_upto_block 0 with fail
  go_cut [10] from 30 to 45 (fun vi wx => ∃ i2 : Nat, vi = .int .i64 i2 ∧ SU (fun x => ltU x d1[a]!) d1 (b - 1) (a + 1) i2 ∧ St B w0 wx (arr g d1 X * R))
  case first =>
    go_wp2_with fail
    go_loopw [10] (fun vi wr => ∃ i' : Nat, vi = .int .i64 i' ∧ (a + 1) ≤ i' ∧ i' ≤ (b - 1) + 1 ∧ scanUp (fun x => ltU x d1[a]!) d1 (b - 1) i' = scanUp (fun x => ltU x d1[a]!) d1 (b - 1) (a + 1) ∧ St B w0 wr (arr g d1 X * R)) (fun vi _ => (b - 1) + 1 - (intOf vi).toNat)
    case atStart => exact ⟨(a + 1), by first | rfl | (congr 1 <;> omega), Nat.le_refl _, by omega, rfl, S1.out⟩
    case round =>
      obtain ⟨i', rfl, h1, h2, hO, s2⟩ := hrel
      clear S1
      have S2 := Lib.hid s2
      by_cases hle : i' ≤ (b - 1)
      · have hleI : (i' : Int) ≤ ((b : Int) - 1) := by omega
        have c0 := HF1.out _ s2 i' (by omega)
        have c1 := HF1.out _ s2 a (by omega)
        cases hl : ltU (G1 i') (G1 a) with
        | true =>
          have HE := Lib.hid ((su_go (p := (fun x => ltU x d1[a]!)) hle (by have q := hl; rw [HG1.out, HG1.out] at q; simpa using q)).symm.trans hO)
          clear hO s2
          go_wp2_with fail
          go_quiet (first | (go_at_call 83; refine Calls.quiet_of_same (less_calls _ _ _)))
          go_wp2_with fail
          go_roundw
          case rel => exact ⟨i' + 1, by go_num, by omega, by omega, HE.out, S2.out.drewN _⟩
          case measure => (simp [intOf] <;> omega)
        | false =>
          have HE := Lib.hid ((su_end (p := (fun x => ltU x d1[a]!)) (.inr (by have q := hl; rw [HG1.out, HG1.out] at q; simpa using q))).symm.trans hO)
          clear hO s2
          go_wp2_with fail
          go_quiet (first | (go_at_call 83; refine Calls.quiet_of_same (less_calls _ _ _)))
          go_wp2_with fail
          go_meet
          exact ⟨i', rfl, ⟨HE.out, h1, h2⟩, S2.out.drewN _⟩
      · have hleI : decide ((i' : Int) ≤ ((b : Int) - 1)) = false := decide_eq_false (by omega)
        have HE := Lib.hid ((su_end (p := (fun x => ltU x d1[a]!)) (.inl hle)).symm.trans hO)
        clear hO s2
        go_wp2_with fail
        go_quiet (first | (go_at_call 83; refine Calls.quiet_of_same (less_calls _ _ _)))
        go_wp2_with fail
        go_meet
        exact ⟨i', rfl, ⟨HE.out, h1, h2⟩, S2.out.drewN _⟩
  obtain ⟨i2, rfl, hsu, hcut⟩ := hcut
  have HU := Lib.hid hsu
  have S2 := Lib.hid hcut
  clear hcut hsu S1
  have hib : i2 ≤ b - 1 + 1 := HU.out.2.2
  have hia : a + 1 ≤ i2 := HU.out.2.1
  go_upto_block 2 with fail
  go_cut [11] from 46 to 62 (fun vj wx => ∃ j2 : Nat, vj = .int .i64 j2 ∧ SD (fun x => !ltU x d1[a]!) d1 i2 (b - 1) j2 ∧ St B w0 wx (arr g d1 X * R))
  case first =>
    go_wp2_with fail
    go_loopw [11] (fun vj wr => ∃ j' : Nat, vj = .int .i64 j' ∧ j' ≤ (b - 1) ∧ i2 ≤ j' + 1 ∧ scanDown (fun x => !ltU x d1[a]!) d1 i2 j' = scanDown (fun x => !ltU x d1[a]!) d1 i2 (b - 1) ∧ St B w0 wr (arr g d1 X * R)) (fun vj _ => (intOf vj).toNat)
    case atStart => exact ⟨(b - 1), by first | rfl | (congr 1 <;> omega), Nat.le_refl _, by omega, rfl, S2.out⟩
    case round =>
      obtain ⟨j', rfl, h1, h2, hO, s2⟩ := hrel
      clear S2
      have S2 := Lib.hid s2
      by_cases hle : i2 ≤ j'
      · have hleI : (i2 : Int) ≤ (j' : Int) := by omega
        have c0 := HF1.out _ s2 j' (by omega)
        have c1 := HF1.out _ s2 a (by omega)
        cases hl : ltU (G1 j') (G1 a) with
        | false =>
          have HE := Lib.hid ((sn_go (p := (fun x => !ltU x d1[a]!)) hle (by omega) (by have q := hl; rw [HG1.out, HG1.out] at q; simpa using q)).symm.trans hO)
          clear hO s2
          go_wp2_with fail
          go_quiet (first | (go_at_call 83; refine Calls.quiet_of_same (less_calls _ _ _)))
          go_wp2_with fail
          go_roundw
          case rel => exact ⟨j' - 1, by congr 1; omega, by omega, by omega, HE.out, S2.out.drewN _⟩
          case measure => (simp [intOf] <;> omega)
        | true =>
          have HE := Lib.hid ((sn_end (p := (fun x => !ltU x d1[a]!)) (.inr (by have q := hl; rw [HG1.out, HG1.out] at q; simpa using q))).symm.trans hO)
          clear hO s2
          go_wp2_with fail
          go_quiet (first | (go_at_call 83; refine Calls.quiet_of_same (less_calls _ _ _)))
          go_wp2_with fail
          go_meet
          exact ⟨j', rfl, ⟨HE.out, h1, h2⟩, S2.out.drewN _⟩
      · have hleI : decide ((i2 : Int) ≤ (j' : Int)) = false := decide_eq_false (by omega)
        have HE := Lib.hid ((sn_end (p := (fun x => !ltU x d1[a]!)) (.inl hle)).symm.trans hO)
        clear hO s2
        go_wp2_with fail
        go_quiet (first | (go_at_call 83; refine Calls.quiet_of_same (less_calls _ _ _)))
        go_wp2_with fail
        go_meet
        exact ⟨j', rfl, ⟨HE.out, h1, h2⟩, S2.out.drewN _⟩
  obtain ⟨j2, rfl, hsd, hcut⟩ := hcut
  have HD := Lib.hid hsd
  have S3 := Lib.hid hcut
  clear hcut hsd S2
  have hpt := HPD.out i2 j2 HU.out HD.out
  have hne := su_sd (fun _ => rfl) HU.out HD.out (by omega)
  have HB := Lib.hid (show a < i2 ∧ i2 ≤ b ∧ j2 < b ∧ i2 ≤ j2 + 1 from by have h1 := HU.out.2; have h2 := HD.out.2; omega)
  clear HPD HU HD HF1 HG1
  by_cases hij : j2 < i2
  · have hijI : (j2 : Int) < (i2 : Int) := by omega
    rw [if_pos hij] at hpt
    clear hne
    have HP := Lib.hid hpt
    have hbb := HB.out
    clear hpt
    go_wp2_with fail
    go_upto_region 8 with fail
    go_cut [] from 66 to 79 (fun wx => St B w0 wx (arr g (swp d1 j2 a) X * R))
    case first =>
      have s7 := S3.out
      have hz := HSZ.out
      obtain ⟨G7, hG7⟩ : ∃ G : Nat → UInt8, ∀ t, G t = (d1)[t]! := ⟨fun t => (d1)[t]!, fun _ => rfl⟩
      have c0 := arr_fam s7 j2 (by omega)
      have c1 := arr_fam s7 a (by omega)
      have f0 := arr_free s7 j2 (by omega)
      have f1 := arr_free s7 a (by omega)
      rw [← hG7] at c0 c1
      have HG7 := Lib.hid hG7
      have HB7 := Lib.hid (show j2 < (d1).size ∧ a < (d1).size from ⟨by omega, by omega⟩)
      by_cases heq : j2 = a
      · clear s7 hz hG7
        first
          | (exfalso; omega)
          | (subst heq
             go_region
             all_goals go_wp2_with fail
             go_meet
             rw [HG7.out]
             exact arr_swp HB7.out.1 HB7.out.2 S3.out)
      · clear s7 hz hG7
        go_region
        all_goals go_wp2_with fail
        go_meet
        rw [HG7.out, HG7.out]
        exact arr_swp HB7.out.1 HB7.out.2 S3.out
    have S4 := Lib.hid hcut
    clear hcut S3
    go_wp2_with fail
    go_ret2
    rw [HP.out]
    exact ⟨rfl, S4.out⟩
  · have hijI : ¬ (j2 : Int) < (i2 : Int) := by omega
    rw [if_neg (by omega)] at hpt
    have hne2 := hne (by omega)
    clear hne
    have HP := Lib.hid hpt
    have hbb := HB.out
    have hsz2 : (swp d1 i2 j2).size = n := by rw [size_swp]; exact HSZ.out
    have HSZ2 := Lib.hid hsz2
    clear hpt hsz2
    go_wp2_with fail
    go_upto_region 10 with fail
    go_cut [] from 81 to 94 (fun wx => St B w0 wx (arr g (swp d1 i2 j2) X * R))
    case first =>
      have s7 := S3.out
      have hz := HSZ.out
      obtain ⟨G7, hG7⟩ : ∃ G : Nat → UInt8, ∀ t, G t = (d1)[t]! := ⟨fun t => (d1)[t]!, fun _ => rfl⟩
      have c0 := arr_fam s7 i2 (by omega)
      have c1 := arr_fam s7 j2 (by omega)
      have f0 := arr_free s7 i2 (by omega)
      have f1 := arr_free s7 j2 (by omega)
      rw [← hG7] at c0 c1
      have HG7 := Lib.hid hG7
      have HB7 := Lib.hid (show i2 < (d1).size ∧ j2 < (d1).size from ⟨by omega, by omega⟩)
      by_cases heq : i2 = j2
      · clear s7 hz hG7
        first
          | (exfalso; omega)
          | (subst heq
             go_region
             all_goals go_wp2_with fail
             go_meet
             rw [HG7.out]
             exact arr_swp HB7.out.1 HB7.out.2 S3.out)
      · clear s7 hz hG7
        go_region
        all_goals go_wp2_with fail
        go_meet
        rw [HG7.out, HG7.out]
        exact arr_swp HB7.out.1 HB7.out.2 S3.out
    have S4 := Lib.hid hcut
    clear hcut S3
    generalize hd2 : swp d1 i2 j2 = d2 at *
    clear hd2
    go_wp2_with fail
    generalize hr : partLoop ltU a (i2 + 1) (j2 - 1) d2 = r at *
    have HR := Lib.hid hr
    clear hr
    go_loopw [10, 11] (fun vi vj wr => ∃ (i j : Nat) (dk : Array UInt8), vi = .int .i64 i ∧ vj = .int .i64 j ∧ a < i ∧ i ≤ j + 1 ∧ j < b ∧ dk.size = n ∧ partLoop ltU a i j dk = r ∧ St B w0 wr (arr g dk X * R)) (fun vi vj _ => (intOf vj).toNat + 1 - (intOf vi).toNat)
    case atStart => exact ⟨i2 + 1, j2 - 1, d2, by congr 1, by congr 1; omega, by omega, by omega, by omega, HSZ2.out, HR.out, S4.out⟩
    case round =>
      obtain ⟨i, j, dk, rfl, rfl, hai, hij2, hjb, hsk, hO, s5⟩ := hrel
      have S5 := Lib.hid s5
      have HSK := Lib.hid hsk
      have HO := Lib.hid hO
      clear S4 s5 hsk hO HSZ2 HR
      obtain ⟨G2, hG2⟩ : ∃ G : Nat → UInt8, ∀ t, G t = (dk)[t]! := ⟨fun t => (dk)[t]!, fun _ => rfl⟩
      have HG2 := Lib.hid hG2
      have HF2 := Lib.hid (fun w' (s : St B w0 w' (arr g (dk) X * R)) t (ht : t < n) => show w'.cell? ⟨g, t, none⟩ = some (.int .u8 ((G2 t).toNat : Int)) from by rw [hG2]; exact arr_fam s t (by have := HSK.out; omega))
      clear hG2
      go_upto_block 6 with fail
      go_cut [10] from 99 to 114 (fun vi wx => ∃ i2 : Nat, vi = .int .i64 i2 ∧ SU (fun x => ltU x dk[a]!) dk j i i2 ∧ St B w0 wx (arr g dk X * R))
      case first =>
        go_wp2_with fail
        go_loopw [10] (fun vi wr => ∃ i' : Nat, vi = .int .i64 i' ∧ i ≤ i' ∧ i' ≤ j + 1 ∧ scanUp (fun x => ltU x dk[a]!) dk j i' = scanUp (fun x => ltU x dk[a]!) dk j i ∧ St B w0 wr (arr g dk X * R)) (fun vi _ => j + 1 - (intOf vi).toNat)
        case atStart => exact ⟨i, by first | rfl | (congr 1 <;> omega), Nat.le_refl _, by omega, rfl, S5.out⟩
        case round =>
          obtain ⟨i', rfl, h1, h2, hO, s2⟩ := hrel
          clear S5
          have S2 := Lib.hid s2
          by_cases hle : i' ≤ j
          · have hleI : (i' : Int) ≤ (j : Int) := by omega
            have c0 := HF2.out _ s2 i' (by omega)
            have c1 := HF2.out _ s2 a (by omega)
            cases hl : ltU (G2 i') (G2 a) with
            | true =>
              have HE := Lib.hid ((su_go (p := (fun x => ltU x dk[a]!)) hle (by have q := hl; rw [HG2.out, HG2.out] at q; simpa using q)).symm.trans hO)
              clear hO s2
              go_wp2_with fail
              go_quiet (first | (go_at_call 83; refine Calls.quiet_of_same (less_calls _ _ _)))
              go_wp2_with fail
              go_roundw
              case rel => exact ⟨i' + 1, by go_num, by omega, by omega, HE.out, S2.out.drewN _⟩
              case measure => (simp [intOf] <;> omega)
            | false =>
              have HE := Lib.hid ((su_end (p := (fun x => ltU x dk[a]!)) (.inr (by have q := hl; rw [HG2.out, HG2.out] at q; simpa using q))).symm.trans hO)
              clear hO s2
              go_wp2_with fail
              go_quiet (first | (go_at_call 83; refine Calls.quiet_of_same (less_calls _ _ _)))
              go_wp2_with fail
              go_meet
              exact ⟨i', rfl, ⟨HE.out, h1, h2⟩, S2.out.drewN _⟩
          · have hleI : decide ((i' : Int) ≤ (j : Int)) = false := decide_eq_false (by omega)
            have HE := Lib.hid ((su_end (p := (fun x => ltU x dk[a]!)) (.inl hle)).symm.trans hO)
            clear hO s2
            go_wp2_with fail
            go_quiet (first | (go_at_call 83; refine Calls.quiet_of_same (less_calls _ _ _)))
            go_wp2_with fail
            go_meet
            exact ⟨i', rfl, ⟨HE.out, h1, h2⟩, S2.out.drewN _⟩
      obtain ⟨i3, rfl, hsu, hcut⟩ := hcut
      have HU3 := Lib.hid hsu
      have S6 := Lib.hid hcut
      clear hcut hsu S5
      have hib : i3 ≤ j + 1 := HU3.out.2.2
      have hia : i ≤ i3 := HU3.out.2.1
      go_upto_block 8 with fail
      go_cut [11] from 115 to 131 (fun vj wx => ∃ j2 : Nat, vj = .int .i64 j2 ∧ SD (fun x => !ltU x dk[a]!) dk i3 j j2 ∧ St B w0 wx (arr g dk X * R))
      case first =>
        go_wp2_with fail
        go_loopw [11] (fun vj wr => ∃ j' : Nat, vj = .int .i64 j' ∧ j' ≤ j ∧ i3 ≤ j' + 1 ∧ scanDown (fun x => !ltU x dk[a]!) dk i3 j' = scanDown (fun x => !ltU x dk[a]!) dk i3 j ∧ St B w0 wr (arr g dk X * R)) (fun vj _ => (intOf vj).toNat)
        case atStart => exact ⟨j, by first | rfl | (congr 1 <;> omega), Nat.le_refl _, by omega, rfl, S6.out⟩
        case round =>
          obtain ⟨j', rfl, h1, h2, hO, s2⟩ := hrel
          clear S6
          have S2 := Lib.hid s2
          by_cases hle : i3 ≤ j'
          · have hleI : (i3 : Int) ≤ (j' : Int) := by omega
            have c0 := HF2.out _ s2 j' (by omega)
            have c1 := HF2.out _ s2 a (by omega)
            cases hl : ltU (G2 j') (G2 a) with
            | false =>
              have HE := Lib.hid ((sn_go (p := (fun x => !ltU x dk[a]!)) hle (by omega) (by have q := hl; rw [HG2.out, HG2.out] at q; simpa using q)).symm.trans hO)
              clear hO s2
              go_wp2_with fail
              go_quiet (first | (go_at_call 83; refine Calls.quiet_of_same (less_calls _ _ _)))
              go_wp2_with fail
              go_roundw
              case rel => exact ⟨j' - 1, by congr 1; omega, by omega, by omega, HE.out, S2.out.drewN _⟩
              case measure => (simp [intOf] <;> omega)
            | true =>
              have HE := Lib.hid ((sn_end (p := (fun x => !ltU x dk[a]!)) (.inr (by have q := hl; rw [HG2.out, HG2.out] at q; simpa using q))).symm.trans hO)
              clear hO s2
              go_wp2_with fail
              go_quiet (first | (go_at_call 83; refine Calls.quiet_of_same (less_calls _ _ _)))
              go_wp2_with fail
              go_meet
              exact ⟨j', rfl, ⟨HE.out, h1, h2⟩, S2.out.drewN _⟩
          · have hleI : decide ((i3 : Int) ≤ (j' : Int)) = false := decide_eq_false (by omega)
            have HE := Lib.hid ((sn_end (p := (fun x => !ltU x dk[a]!)) (.inl hle)).symm.trans hO)
            clear hO s2
            go_wp2_with fail
            go_quiet (first | (go_at_call 83; refine Calls.quiet_of_same (less_calls _ _ _)))
            go_wp2_with fail
            go_meet
            exact ⟨j', rfl, ⟨HE.out, h1, h2⟩, S2.out.drewN _⟩
      obtain ⟨j3, rfl, hsd, hcut⟩ := hcut
      have HD3 := Lib.hid hsd
      have S7 := Lib.hid hcut
      clear hcut hsd S6
      have hstep := pl_step ltU HU3.out HD3.out
      have hne := su_sd (fun _ => rfl) HU3.out HD3.out (by omega)
      have hjj : j3 ≤ j ∧ i3 ≤ j3 + 1 := HD3.out.2
      rw [HO.out] at hstep
      clear HU3 HD3 HF2 HG2 HO
      by_cases hx : j3 < i3
      · have hxI : (j3 : Int) < (i3 : Int) := by omega
        rw [if_pos hx] at hstep
        clear hne
        subst hstep
        go_wp2_with fail
        go_upto_region 21 with fail
        go_cut [] from 153 to 166 (fun wx => St B w0 wx (arr g (swp dk j3 a) X * R))
        case first =>
          have s7 := S7.out
          have hz := HSK.out
          obtain ⟨G7, hG7⟩ : ∃ G : Nat → UInt8, ∀ t, G t = (dk)[t]! := ⟨fun t => (dk)[t]!, fun _ => rfl⟩
          have c0 := arr_fam s7 j3 (by omega)
          have c1 := arr_fam s7 a (by omega)
          have f0 := arr_free s7 j3 (by omega)
          have f1 := arr_free s7 a (by omega)
          rw [← hG7] at c0 c1
          have HG7 := Lib.hid hG7
          have HB7 := Lib.hid (show j3 < (dk).size ∧ a < (dk).size from ⟨by omega, by omega⟩)
          by_cases heq : j3 = a
          · clear s7 hz hG7
            first
              | (exfalso; omega)
              | (subst heq
                 go_region
                 all_goals go_wp2_with fail
                 go_meet
                 rw [HG7.out]
                 exact arr_swp HB7.out.1 HB7.out.2 S7.out)
          · clear s7 hz hG7
            go_region
            all_goals go_wp2_with fail
            go_meet
            rw [HG7.out, HG7.out]
            exact arr_swp HB7.out.1 HB7.out.2 S7.out
        have S8 := Lib.hid hcut
        clear hcut S7
        go_wp2_with fail
        go_ret2
        rw [HP.out]
        exact ⟨rfl, S8.out⟩
      · have hxI : ¬ (j3 : Int) < (i3 : Int) := by omega
        rw [if_neg (by omega)] at hstep
        have hne3 := hne (by omega)
        clear hne
        have HST := Lib.hid hstep.symm
        clear hstep
        go_wp2_with fail
        go_upto_region 18 with fail
        go_cut [] from 135 to 148 (fun wx => St B w0 wx (arr g (swp dk i3 j3) X * R))
        case first =>
          have s7 := S7.out
          have hz := HSK.out
          obtain ⟨G7, hG7⟩ : ∃ G : Nat → UInt8, ∀ t, G t = (dk)[t]! := ⟨fun t => (dk)[t]!, fun _ => rfl⟩
          have c0 := arr_fam s7 i3 (by omega)
          have c1 := arr_fam s7 j3 (by omega)
          have f0 := arr_free s7 i3 (by omega)
          have f1 := arr_free s7 j3 (by omega)
          rw [← hG7] at c0 c1
          have HG7 := Lib.hid hG7
          have HB7 := Lib.hid (show i3 < (dk).size ∧ j3 < (dk).size from ⟨by omega, by omega⟩)
          by_cases heq : i3 = j3
          · clear s7 hz hG7
            first
              | (exfalso; omega)
              | (subst heq
                 go_region
                 all_goals go_wp2_with fail
                 go_meet
                 rw [HG7.out]
                 exact arr_swp HB7.out.1 HB7.out.2 S7.out)
          · clear s7 hz hG7
            go_region
            all_goals go_wp2_with fail
            go_meet
            rw [HG7.out, HG7.out]
            exact arr_swp HB7.out.1 HB7.out.2 S7.out
        have S8 := Lib.hid hcut
        clear hcut S7
        go_wp2_with fail
        go_roundw
        case rel => exact ⟨i3 + 1, j3 - 1, _, by congr 1, by congr 1; omega, by omega, by omega, by omega, by rw [size_swp]; exact HSK.out, HST.out, S8.out⟩
        case measure => (simp [intOf] <;> omega)
theorem pe_step (lt : UInt8 → UInt8 → Bool) {a i j i2 j2 : Nat} {d : Array UInt8} (h1 : SU (fun x => !lt d[a]! x) d j i i2) (h2 : SD (fun x => lt d[a]! x) d i2 j j2) :
    partEqLoop lt a i j d = if i2 > j2 then (i2, d) else partEqLoop lt a (i2 + 1) (j2 - 1) (swp d i2 j2) := by
  rw [partEqLoop_eq]
  simp only [← h1.1, ← h2.1]
set_option maxRecDepth 100000 in
set_option maxHeartbeats 16000000 in
theorem parq_calls (g n c a b pivot : Nat) (d : Array UInt8) (X : List Value) (hn : d.size = n) (hs : n ≤ 1000000) (hap : a ≤ pivot) (hpb : pivot < b) (hb : b ≤ n) (w : World) (s : St B w0 w (arr g d X * R)) :
    Calls Try.prog 84 #[.slice (some ⟨g, 0, none⟩) n c, .int .i64 a, .int .i64 b, .int .i64 pivot] w fun e w' => e = .returned (.int .i64 (partitionEqual ltU d a b pivot).1) ∧ St B w0 w' (arr g (partitionEqual ltU d a b pivot).2 X * R) := by
  have hsz : (swp d a pivot).size = n := by rw [size_swp]; exact hn
  have HSZ := Lib.hid hsz
  have hr : partitionEqual ltU d a b pivot = partEqLoop ltU a (a + 1) (b - 1) (swp d a pivot) := rfl
  rw [hr]
  have S := Lib.hid s
  have Hn := Lib.hid hn
  clear s hn
  clear hsz hr
  go_enter Try.func84, Try.ntmps84
  go_upto_region 1 with fail
  go_cut [] from 11 to 24 (fun wx => St B w0 wx (arr g (swp d a pivot) X * R))
  case first =>
    have s7 := S.out
    have hz := Hn.out
    obtain ⟨G7, hG7⟩ : ∃ G : Nat → UInt8, ∀ t, G t = (d)[t]! := ⟨fun t => (d)[t]!, fun _ => rfl⟩
    have c0 := arr_fam s7 a (by omega)
    have c1 := arr_fam s7 pivot (by omega)
    have f0 := arr_free s7 a (by omega)
    have f1 := arr_free s7 pivot (by omega)
    rw [← hG7] at c0 c1
    have HG7 := Lib.hid hG7
    have HB7 := Lib.hid (show a < (d).size ∧ pivot < (d).size from ⟨by omega, by omega⟩)
    by_cases heq : a = pivot
    · clear s7 hz hG7
      first
        | (exfalso; omega)
        | (subst heq
           go_region
           all_goals go_wp2_with fail
           go_meet
           rw [HG7.out]
           exact arr_swp HB7.out.1 HB7.out.2 S.out)
    · clear s7 hz hG7
      go_region
      all_goals go_wp2_with fail
      go_meet
      rw [HG7.out, HG7.out]
      exact arr_swp HB7.out.1 HB7.out.2 S.out
  have S1 := Lib.hid hcut
  clear hcut S
  generalize hd1 : swp d a pivot = d1 at *
  have HD1 := Lib.hid hd1
  clear hd1
  go_wp2_with fail
  generalize hr : partEqLoop ltU a (a + 1) (b - 1) d1 = r at *
  have HR := Lib.hid hr
  have HR0 := Lib.hid hr
  clear hr
  go_loopw [9, 10] (fun vi vj wr => ∃ (i j : Nat) (dk : Array UInt8), vi = .int .i64 i ∧ vj = .int .i64 j ∧ a < i ∧ i ≤ j + 1 ∧ j < b ∧ dk.size = n ∧ partEqLoop ltU a i j dk = r ∧ St B w0 wr (arr g dk X * R)) (fun vi vj _ => (intOf vj).toNat + 1 - (intOf vi).toNat)
  case atStart => exact ⟨a + 1, b - 1, d1, by congr 1, by congr 1; omega, by omega, by omega, by omega, HSZ.out, HR.out, S1.out⟩
  case round =>
    obtain ⟨i, j, dk, rfl, rfl, hai, hij2, hjb, hsk, hO, s5⟩ := hrel
    have S5 := Lib.hid s5
    have HSK := Lib.hid hsk
    have HO := Lib.hid hO
    clear S1 s5 hsk hO HSZ HR
    obtain ⟨G2, hG2⟩ : ∃ G : Nat → UInt8, ∀ t, G t = (dk)[t]! := ⟨fun t => (dk)[t]!, fun _ => rfl⟩
    have HG2 := Lib.hid hG2
    have HF2 := Lib.hid (fun w' (s : St B w0 w' (arr g (dk) X * R)) t (ht : t < n) => show w'.cell? ⟨g, t, none⟩ = some (.int .u8 ((G2 t).toNat : Int)) from by rw [hG2]; exact arr_fam s t (by have := HSK.out; omega))
    clear hG2
    go_upto_block 2 with fail
    go_cut [9] from 29 to 45 (fun vi wx => ∃ i2 : Nat, vi = .int .i64 i2 ∧ SU (fun x => !ltU dk[a]! x) dk j i i2 ∧ St B w0 wx (arr g dk X * R))
    case first =>
      go_wp2_with fail
      go_loopw [9] (fun vi wr => ∃ i' : Nat, vi = .int .i64 i' ∧ i ≤ i' ∧ i' ≤ j + 1 ∧ scanUp (fun x => !ltU dk[a]! x) dk j i' = scanUp (fun x => !ltU dk[a]! x) dk j i ∧ St B w0 wr (arr g dk X * R)) (fun vi _ => j + 1 - (intOf vi).toNat)
      case atStart => exact ⟨i, by first | rfl | (congr 1 <;> omega), Nat.le_refl _, by omega, rfl, S5.out⟩
      case round =>
        obtain ⟨i', rfl, h1, h2, hO, s2⟩ := hrel
        clear S5
        have S2 := Lib.hid s2
        by_cases hle : i' ≤ j
        · have hleI : (i' : Int) ≤ (j : Int) := by omega
          have c0 := HF2.out _ s2 i' (by omega)
          have c1 := HF2.out _ s2 a (by omega)
          cases hl : ltU (G2 a) (G2 i') with
          | false =>
            have HE := Lib.hid ((su_go (p := (fun x => !ltU dk[a]! x)) hle (by have q := hl; rw [HG2.out, HG2.out] at q; simpa using q)).symm.trans hO)
            clear hO s2
            go_wp2_with fail
            go_quiet (first | (go_at_call 83; refine Calls.quiet_of_same (less_calls _ _ _)))
            go_wp2_with fail
            go_roundw
            case rel => exact ⟨i' + 1, by go_num, by omega, by omega, HE.out, S2.out.drewN _⟩
            case measure => (simp [intOf] <;> omega)
          | true =>
            have HE := Lib.hid ((su_end (p := (fun x => !ltU dk[a]! x)) (.inr (by have q := hl; rw [HG2.out, HG2.out] at q; simpa using q))).symm.trans hO)
            clear hO s2
            go_wp2_with fail
            go_quiet (first | (go_at_call 83; refine Calls.quiet_of_same (less_calls _ _ _)))
            go_wp2_with fail
            go_meet
            exact ⟨i', rfl, ⟨HE.out, h1, h2⟩, S2.out.drewN _⟩
        · have hleI : decide ((i' : Int) ≤ (j : Int)) = false := decide_eq_false (by omega)
          have HE := Lib.hid ((su_end (p := (fun x => !ltU dk[a]! x)) (.inl hle)).symm.trans hO)
          clear hO s2
          go_wp2_with fail
          go_quiet (first | (go_at_call 83; refine Calls.quiet_of_same (less_calls _ _ _)))
          go_wp2_with fail
          go_meet
          exact ⟨i', rfl, ⟨HE.out, h1, h2⟩, S2.out.drewN _⟩
    obtain ⟨i3, rfl, hsu, hcut⟩ := hcut
    have HU3 := Lib.hid hsu
    have S6 := Lib.hid hcut
    clear hcut hsu S5
    have hib : i3 ≤ j + 1 := HU3.out.2.2
    have hia : i ≤ i3 := HU3.out.2.1
    go_upto_block 4 with fail
    go_cut [10] from 46 to 61 (fun vj wx => ∃ j2 : Nat, vj = .int .i64 j2 ∧ SD (fun x => ltU dk[a]! x) dk i3 j j2 ∧ St B w0 wx (arr g dk X * R))
    case first =>
      go_wp2_with fail
      go_loopw [10] (fun vj wr => ∃ j' : Nat, vj = .int .i64 j' ∧ j' ≤ j ∧ i3 ≤ j' + 1 ∧ scanDown (fun x => ltU dk[a]! x) dk i3 j' = scanDown (fun x => ltU dk[a]! x) dk i3 j ∧ St B w0 wr (arr g dk X * R)) (fun vj _ => (intOf vj).toNat)
      case atStart => exact ⟨j, by first | rfl | (congr 1 <;> omega), Nat.le_refl _, by omega, rfl, S6.out⟩
      case round =>
        obtain ⟨j', rfl, h1, h2, hO, s2⟩ := hrel
        clear S6
        have S2 := Lib.hid s2
        by_cases hle : i3 ≤ j'
        · have hleI : (i3 : Int) ≤ (j' : Int) := by omega
          have c0 := HF2.out _ s2 j' (by omega)
          have c1 := HF2.out _ s2 a (by omega)
          cases hl : ltU (G2 a) (G2 j') with
          | true =>
            have HE := Lib.hid ((sn_go (p := (fun x => ltU dk[a]! x)) hle (by omega) (by have q := hl; rw [HG2.out, HG2.out] at q; simpa using q)).symm.trans hO)
            clear hO s2
            go_wp2_with fail
            go_quiet (first | (go_at_call 83; refine Calls.quiet_of_same (less_calls _ _ _)))
            go_wp2_with fail
            go_roundw
            case rel => exact ⟨j' - 1, by congr 1; omega, by omega, by omega, HE.out, S2.out.drewN _⟩
            case measure => (simp [intOf] <;> omega)
          | false =>
            have HE := Lib.hid ((sn_end (p := (fun x => ltU dk[a]! x)) (.inr (by have q := hl; rw [HG2.out, HG2.out] at q; simpa using q))).symm.trans hO)
            clear hO s2
            go_wp2_with fail
            go_quiet (first | (go_at_call 83; refine Calls.quiet_of_same (less_calls _ _ _)))
            go_wp2_with fail
            go_meet
            exact ⟨j', rfl, ⟨HE.out, h1, h2⟩, S2.out.drewN _⟩
        · have hleI : decide ((i3 : Int) ≤ (j' : Int)) = false := decide_eq_false (by omega)
          have HE := Lib.hid ((sn_end (p := (fun x => ltU dk[a]! x)) (.inl hle)).symm.trans hO)
          clear hO s2
          go_wp2_with fail
          go_quiet (first | (go_at_call 83; refine Calls.quiet_of_same (less_calls _ _ _)))
          go_wp2_with fail
          go_meet
          exact ⟨j', rfl, ⟨HE.out, h1, h2⟩, S2.out.drewN _⟩
    obtain ⟨j3, rfl, hsd, hcut⟩ := hcut
    have HD3 := Lib.hid hsd
    have S7 := Lib.hid hcut
    clear hcut hsd S6
    have hstep := pe_step ltU HU3.out HD3.out
    have hne := su_sd (fun _ => by simp) HU3.out HD3.out (by omega)
    have hjj : j3 ≤ j ∧ i3 ≤ j3 + 1 := HD3.out.2
    rw [HO.out] at hstep
    clear HU3 HD3 HF2 HG2 HO
    by_cases hx : j3 < i3
    · have hxI : (j3 : Int) < (i3 : Int) := by omega
      rw [if_pos hx] at hstep
      clear hne
      subst hstep
      go_wp2_with fail
      go_ret
      rw [HD1.out, HR0.out]
      exact ⟨rfl, S7.out⟩
    · have hxI : ¬ (j3 : Int) < (i3 : Int) := by omega
      rw [if_neg (by omega)] at hstep
      have hne3 := hne (by omega)
      clear hne
      have HST := Lib.hid hstep.symm
      clear hstep
      go_wp2_with fail
      go_upto_region 8 with fail
      go_cut [] from 65 to 78 (fun wx => St B w0 wx (arr g (swp dk i3 j3) X * R))
      case first =>
        have s7 := S7.out
        have hz := HSK.out
        obtain ⟨G7, hG7⟩ : ∃ G : Nat → UInt8, ∀ t, G t = (dk)[t]! := ⟨fun t => (dk)[t]!, fun _ => rfl⟩
        have c0 := arr_fam s7 i3 (by omega)
        have c1 := arr_fam s7 j3 (by omega)
        have f0 := arr_free s7 i3 (by omega)
        have f1 := arr_free s7 j3 (by omega)
        rw [← hG7] at c0 c1
        have HG7 := Lib.hid hG7
        have HB7 := Lib.hid (show i3 < (dk).size ∧ j3 < (dk).size from ⟨by omega, by omega⟩)
        by_cases heq : i3 = j3
        · clear s7 hz hG7
          first
            | (exfalso; omega)
            | (subst heq
               go_region
               all_goals go_wp2_with fail
               go_meet
               rw [HG7.out]
               exact arr_swp HB7.out.1 HB7.out.2 S7.out)
        · clear s7 hz hG7
          go_region
          all_goals go_wp2_with fail
          go_meet
          rw [HG7.out, HG7.out]
          exact arr_swp HB7.out.1 HB7.out.2 S7.out
      have S8 := Lib.hid hcut
      clear hcut S7
      go_wp2_with fail
      go_roundw
      case rel => exact ⟨i3 + 1, j3 - 1, _, by congr 1, by congr 1; omega, by omega, by omega, by omega, by rw [size_swp]; exact HSK.out, HST.out, S8.out⟩
      case measure => (simp [intOf] <;> omega)
end
end Go.Proofs.Ytjnfhppjkadlpaa.SrA
