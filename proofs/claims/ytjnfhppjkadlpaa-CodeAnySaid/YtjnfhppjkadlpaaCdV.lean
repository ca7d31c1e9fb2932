/- Rows of bytes whose headers are hidden; the code laws' data and parities so. No condition. -/
import Derived.Test.YtjnfhppjkadlpaaCdS
import Derived.Test.YtjnfhppjkadlpaaCdT
import Derived.Test.YtjnfhppjkadlpaaCdU
set_option linter.unusedSimpArgs false
set_option linter.unusedVariables false
namespace Go.Proofs.Ytjnfhppjkadlpaa.Cd
open Go Go.RowKit Go.Proofs.Ytjnfhppjkadlpaa Go.Proofs.Ytjnfhppjkadlpaa.Sp Go.Proofs.Ytjnfhppjkadlpaa.Reg Go.Proofs.Ytjnfhppjkadlpaa.Rd Go.Proofs.Ytjnfhppjkadlpaa.Obr Go.Proofs.Ytjnfhppjkadlpaa.Gf Go.Proofs.Ytjnfhppjkadlpaa.Mt
/-- Rows of one's own, none of them nil. -/
def obx (v : Value) (d : List (List UInt8)) : HP := exi fun vs => pur (vs.length = d.length ∧ NN vs) * ob v vs d
section
variable {B : Nat} {w0 w : World} {R : HP}
theorem obx_open {v : Value} {d : List (List UInt8)} (s : St B w0 w (obx v d * R)) : ∃ vs, vs.length = d.length ∧ NN vs ∧ St B w0 w (ob v vs d * R) := by
  obtain ⟨vs, s1⟩ := St.ex.1 s
  rw [sep_assoc] at s1
  obtain ⟨⟨h1, h2⟩, s2⟩ := St.pu.1 s1
  exact ⟨vs, h1, h2, s2⟩
theorem obx_mk {v : Value} {vs : List Value} {d : List (List UInt8)} (h1 : vs.length = d.length) (h2 : NN vs) (s : St B w0 w (ob v vs d * R)) : St B w0 w (obx v d * R) := by
  refine St.ex.2 ⟨vs, ?_⟩
  rw [sep_assoc]
  exact St.pu.2 ⟨⟨h1, h2⟩, s⟩
theorem obx_slice {v : Value} {d : List (List UInt8)} (s : St B w0 w (obx v d * R)) : ∃ a c, v = .slice a d.length c := by
  obtain ⟨vs, h1, h2, s1⟩ := obx_open s
  obtain ⟨a, c, e, -⟩ := (ob_row s1).rowSlice
  exact ⟨a, c, e⟩
theorem ob_cell {g n c : Nat} {vs : List Value} {l : List (List UInt8)} (s : St B w0 w (ob (.slice (some ⟨g, 0, none⟩) n c) vs l * R)) {j : Nat} {u : Value} (hj : j < l.length) (hu : vs[j]? = some u) : w.cell? ⟨g, j, none⟩ = some u := by
  have := (ob_row s).row1.2.2.2.2.1 j hj
  rw [this, hu]
/-- A row and its header. -/
theorem ob_head {v : Value} {vs : List Value} {l : List (List UInt8)} (hl : vs.length = l.length) (hn : NN vs) (j : Nat) (hj : j < l.length) (s : St B w0 w (ob v vs l * R)) : ∃ g c gu cu, v = .slice (some ⟨g, 0, none⟩) l.length c ∧ vs[j]? = some (.slice (some ⟨gu, 0, none⟩) l[j].length cu) ∧ Reads B w0 (ob v vs l) (.slice (some ⟨gu, 0, none⟩) l[j].length cu) l[j] := by
  obtain ⟨g, c, e, -⟩ := (ob_row s).rowCells (by omega)
  have hu : vs[j]? = some vs[j] := List.getElem?_eq_getElem (by omega)
  obtain ⟨gu, n, cu, e2⟩ := hn vs[j] (List.getElem_mem _)
  have hr := ob_reads (B := B) (w0 := w0) (v := v) hl hj hu
  have := (hr w R (s.eq (sep_comm _ _)))
  rw [e2] at this hr hu
  obtain rfl := this.rd.1
  exact ⟨g, c, gu, cu, e, hu, hr⟩
theorem dat_x (k long : Nat) (hk : k ≤ 100) (hl : long ≤ 1000) (a : Option Addr) (n c : Nat) (b : List UInt8) (hn : n = b.length) (hbl : b.length ≤ 1000000) (hb : Reads B w0 R (.slice a b.length c) b) (s : St B w0 w R) :
    Calls Try.prog 32 #[.int .i64 (k : Int), .int .i64 (long : Int), .slice a n c] w fun e w' => ∃ v, e = .returned v ∧ St B w0 w' (obx v (dl b long k) * R) := by
  subst hn
  refine (dat_calls k long hk hl a c b hbl w hb s).mono ?_
  rintro e w' ⟨v, vs, rfl, h1, h2, s1⟩
  exact ⟨v, rfl, obx_mk (by rw [h1, dl_len]) h2 s1⟩
theorem encode_x (p fb : Nat) (xs ys : List UInt8) (n : Nat) (v : Value) (d : List (List UInt8)) (hg : Cd.Good xs ys) (hk : d.length = xs.length) (hn : n ≤ 64) (hd : ∀ b ∈ d, b.length = n) (s : St B w0 w (fx fb * (cd p fb xs ys * (obx v d * R)))) :
    Calls Try.prog 22 #[pp p, v] w fun e w' => ∃ v', e = .returned (.tuple #[v', .int .i64 0]) ∧ St B w0 w' (obx v' (enc xs ys n d) * (fx fb * (cd p fb xs ys * (obx v d * R)))) := by
  obtain ⟨vs, h1, h2, s1⟩ := obx_open (s.eq (Q := obx v d * (fx fb * (cd p fb xs ys * R))) (by ac_rfl))
  refine (encode_calls p fb xs ys n v d ⟨hg.k1, hg.k2⟩ hg.r2 hk hn (fun i hi => hd _ (List.getElem_mem hi)) w (R := ob v vs d * R) ((ob_brd h1 s1).of (X := R) (sep_comm _ _)) (s1.eq (by ac_rfl))).mono ?_
  rintro e w' ⟨v', vs', rfl, h3, h4, s2⟩
  have s3 := obx_mk (by rw [enc_len]; exact h3) h4 s2
  have s4 := obx_mk h1 h2 (s3.eq (Q := ob v vs d * (obx v' (enc xs ys n d) * (fx fb * (cd p fb xs ys * R)))) (by ac_rfl))
  exact ⟨v', rfl, s4.eq (by ac_rfl)⟩
end
/-- Two data: as they lie behind two calls. -/
def DF (k : Nat) (a : Value × Value) : Value := match k with
  | 0 => a.1
  | 1 => a.2
  | 2 => a.1
  | _ => a.2
def DH (X Y : List (List UInt8)) (Z : HP) (k : Nat) (a : Value × Value) : HP := match k with
  | 0 => obx a.1 X * Z
  | _ => obx a.2 Y * (obx a.1 X * Z)
theorem DH_x {X Y : List (List UInt8)} {Z : HP} (j : Nat) (a : Value × Value) : ∃ Q, DH X Y Z j a = Z * Q := by
  match j with
  | 0 => exact ⟨_, sep_comm _ _⟩
  | _ + 1 => exact ⟨obx a.2 Y * obx a.1 X, by unfold DH; ac_rfl⟩
theorem DJ_x {B : Nat} {w0 : World} {X Y : List (List UInt8)} {Z : HP} {j : Nat} {vs : Nat → Value} {w : World} (h : PJ B w0 Z DF (DH X Y Z) j vs w) : ∃ Q, St B w0 w (Z * Q) := by
  obtain ⟨Q, ⟨Q', rfl⟩, s⟩ := PJ.any (Y := fun Q => ∃ Q', Q = Z * Q') ⟨emp, (sep_emp _).symm⟩ DH_x h
  exact ⟨Q', s⟩
/-- Sums under way. -/
def Zr (X Y : List (List UInt8)) (q : Nat) : List (List UInt8) := (List.range X.length).map fun i => if i < q then zx (X.getD i []) (Y.getD i []) else X.getD i []
theorem Zr_len (X Y : List (List UInt8)) (q : Nat) : (Zr X Y q).length = X.length := by simp [Zr]
theorem Zr_zero (X Y : List (List UInt8)) : Zr X Y 0 = X := by
  refine List.ext_getElem (by simp [Zr]) fun i h1 h2 => ?_
  simp [Zr, List.getD, h2]
theorem Zr_at (X Y : List (List UInt8)) (q : Nat) (h : q < X.length) : (Zr X Y q)[q]'(by rw [Zr_len]; exact h) = X[q] := by
  simp [Zr, List.getD, h]
theorem Zr_set (X Y : List (List UInt8)) (q : Nat) (h : q < X.length) (h2 : q < Y.length) : (Zr X Y q).set q (zx X[q] Y[q]) = Zr X Y (q + 1) := by
  refine List.ext_getElem (by simp [Zr]) fun i h3 h4 => ?_
  have hi : i < X.length := by simpa [Zr] using h4
  rw [List.getElem_set]
  simp only [Zr, List.getElem_map, List.getElem_range]
  by_cases e : q = i
  · subst e; rw [if_pos rfl, if_pos (by omega)]; simp [List.getD, h, h2]
  · rw [if_neg e]
    by_cases h5 : i < q
    · rw [if_pos h5, if_pos (by omega)]
    · rw [if_neg h5, if_neg (by omega)]
theorem Zr_end (X Y : List (List UInt8)) {n : Nat} (hx : ∀ b ∈ X, b.length = n) (hy : ∀ b ∈ Y, b.length = n) (hl : X.length = Y.length) (i q : Nat) : ((Zr X Y X.length).getD i []).getD q 0 = (X.getD i []).getD q 0 ^^^ (Y.getD i []).getD q 0 := by
  by_cases hi : i < X.length
  · have e : (Zr X Y X.length).getD i [] = zx (X.getD i []) (Y.getD i []) := by
      simp [Zr, List.getD, List.getElem?_range hi, hi]
    rw [e]
    have h1 : (X.getD i []).length = n := by simp only [List.getD, List.getElem?_eq_getElem hi, Option.getD_some]; exact hx _ (List.getElem_mem hi)
    have h2 : (Y.getD i []).length = n := by simp only [List.getD, List.getElem?_eq_getElem (show i < Y.length by omega), Option.getD_some]; exact hy _ (List.getElem_mem _)
    generalize X.getD i [] = a at *
    generalize Y.getD i [] = b at *
    by_cases hq : q < n
    · simp [zx, List.getD, h1, hq]
    · simp [zx, List.getD, h1, List.getElem?_eq_none (show b.length ≤ q by omega), List.getElem?_eq_none (show a.length ≤ q by omega), hq]
  · have e1 : X.getD i [] = [] := by simp [List.getD, List.getElem?_eq_none (show X.length ≤ i by omega)]
    have e2 : Y.getD i [] = [] := by simp [List.getD, List.getElem?_eq_none (show Y.length ≤ i by omega)]
    have e3 : (Zr X Y X.length).getD i [] = [] := by simp [List.getD, List.getElem?_eq_none (show (Zr X Y X.length).length ≤ i by rw [Zr_len]; omega)]
    rw [e1, e2, e3]
    simp
theorem Zr_each (X Y : List (List UInt8)) {n : Nat} (hx : ∀ b ∈ X, b.length = n) (q : Nat) : ∀ b ∈ Zr X Y q, b.length = n := by
  intro b hb
  obtain ⟨i, hi, rfl⟩ := List.mem_map.1 hb
  have hi' := List.mem_range.1 hi
  have h : (X.getD i []).length = n := by simp only [List.getD, List.getElem?_eq_getElem hi', Option.getD_some]; exact hx _ (List.getElem_mem hi')
  split
  · rw [zx_len, h]
  · exact h
end Go.Proofs.Ytjnfhppjkadlpaa.Cd
