/- Rows of rows: one of them taken out, read, turned. Program-free; no condition. -/
import Derived.Test.YtjnfhppjkadlpaaSp
import Derived.Laws.CopyRow
namespace Go.Proofs.Ytjnfhppjkadlpaa.Sp
open Go Go.RowKit

theorem rows_at (e : TypeId) : ∀ (vs : List Value) (bss : List (List UInt8)) (i : Nat) (v : Value) (b : List UInt8), vs.length = bss.length → vs[i]? = some v → bss[i]? = some b →
    rows e vs bss = row e 1 v b.length (bvs b) * rows e (vs.eraseIdx i) (bss.eraseIdx i)
  | [], [], i, v, b, _, hv, _ => by simp at hv
  | u :: vs, c :: bss, 0, v, b, _, hv, hb => by simp at hv hb; subst hv; subst hb; rfl
  | u :: vs, c :: bss, i + 1, v, b, hl, hv, hb => by
    show row e 1 u c.length (bvs c) * rows e vs bss = _
    rw [rows_at e vs bss i v b (by simpa using hl) (by simpa using hv) (by simpa using hb)]
    show row e 1 u c.length (bvs c) * (row e 1 v b.length (bvs b) * _) = row e 1 v b.length (bvs b) * (row e 1 u c.length (bvs c) * _)
    exact sep_left_comm _ _ _
theorem rows_set (e : TypeId) (vs : List Value) (bss : List (List UInt8)) (i : Nat) (v : Value) (b : List UInt8) (hl : vs.length = bss.length) (hv : vs[i]? = some v) :
    rows e vs (bss.set i b) = row e 1 v b.length (bvs b) * rows e (vs.eraseIdx i) (bss.eraseIdx i) := by
  have hi : i < vs.length := (List.getElem?_eq_some_iff.1 hv).1
  rw [rows_at e vs (bss.set i b) i v b (by simpa using hl) hv (by rw [List.getElem?_set_self (by omega)]), List.eraseIdx_set_eq]
section
variable {B : Nat} {w0 w : World} {R : HP} {e : TypeId}
theorem St.rowsAt {vs : List Value} {bss : List (List UInt8)} {i : Nat} {v : Value} {b : List UInt8} (s : St B w0 w (rows e vs bss * R)) (hl : vs.length = bss.length) (hv : vs[i]? = some v) (hb : bss[i]? = some b) :
    St B w0 w (row e 1 v b.length (bvs b) * (rows e (vs.eraseIdx i) (bss.eraseIdx i) * R)) := by
  rw [rows_at e vs bss i v b hl hv hb] at s
  exact s.eq (sep_assoc _ _ _)
theorem St.rowsSet {vs : List Value} {bss : List (List UInt8)} {i : Nat} {v : Value} {b : List UInt8} (hl : vs.length = bss.length) (hv : vs[i]? = some v) (s : St B w0 w (row e 1 v b.length (bvs b) * (rows e (vs.eraseIdx i) (bss.eraseIdx i) * R))) :
    St B w0 w (rows e vs (bss.set i b) * R) := by
  rw [rows_set e vs bss i v b hl hv]
  exact s.eq (sep_assoc _ _ _).symm
/-- A row that is not empty: its head, its cells. -/
theorem St.rowCells {size : Nat} {v : Value} {n : Nat} {xs : List Value} (s : St B w0 w (row e size v n xs * R)) (hn : 0 < n) :
    ∃ g c, v = .slice (some ⟨g, 0, none⟩) n c ∧ n ≤ c ∧ c ≤ maxLen ∧ xs.length = n * size ∧ ∀ j, j < n * size → w.cell? ⟨g, j, none⟩ = xs[j]? := by
  obtain ⟨hl, h⟩ := s.rowOpen
  rcases h with ⟨_, rfl, _⟩ | ⟨g, cap, cur, rfl, h1, h2, h3, h4, t⟩
  · omega
  · refine ⟨g, cap, rfl, h1, h2, hl, fun j hj => ?_⟩
    rw [t.cell, ← h4, List.getElem?_take, if_pos hj]
    simp
/-- Whatever it is, a row's value is a slice of so many. -/
theorem St.rowSlice {size : Nat} {v : Value} {n : Nat} {xs : List Value} (s : St B w0 w (row e size v n xs * R)) : ∃ a c, v = .slice a n c ∧ n ≤ c ∧ c ≤ maxLen ∧ (a = none → c = 0) ∧ (0 < n → ∃ g, a = some ⟨g, 0, none⟩ ∧ ∀ j, j < n * size → w.cell? ⟨g, j, none⟩ = xs[j]?) := by
  by_cases hn : 0 < n
  · obtain ⟨g, c, rfl, h1, h2, _, h3⟩ := s.rowCells hn
    exact ⟨_, c, rfl, h1, h2, (fun h => by cases h), fun _ => ⟨g, rfl, h3⟩⟩
  · obtain rfl : n = 0 := by omega
    obtain ⟨hl, h⟩ := s.rowOpen
    rcases h with ⟨rfl, _, _⟩ | ⟨g, cap, cur, rfl, h1, h2, h3, h4, t⟩
    · exact ⟨none, 0, rfl, Nat.le_refl _, Nat.zero_le _, fun _ => rfl, fun h => by omega⟩
    · exact ⟨_, cap, rfl, h1, h2, (fun h => by cases h), fun h => by omega⟩
/-- A byte row's cell is stored. -/
theorem St.rowSetB {g n c i : Nat} {b : List UInt8} (s : St B w0 w (row e 1 (.slice (some ⟨g, 0, none⟩) n c) n (bvs b) * R)) (hi : i < b.length) (x : UInt8) :
    St B w0 (w.setCell ⟨g, i, none⟩ (bv x)) (row e 1 (.slice (some ⟨g, 0, none⟩) n c) n (bvs (b.set i x)) * R) := by
  obtain ⟨_, _, _, _, _, _, _, _, h⟩ := s.rowB'
  exact h i x hi
end
/-- copy of bytes into an owned row. -/
theorem run_copy_st {P : Program} {dT sT ty e : TypeId} (hu : P.underlying dT = some (.slice e)) (hs : (P.info? e).map (·.size) = some 1) {B : Nat} {w0 w : World} {R : HP} {g n c : Nat} {l : List UInt8}
    (s : St B w0 w (row e 1 (.slice (some ⟨g, 0, none⟩) n c) n (bvs l) * R)) (o dLen dCap : Nat) (a : Option Addr) (c2 : Nat) (data : List UInt8) (hd : BS w (.slice a data.length c2) data) (h1 : data.length ≤ dLen) (h2 : o + data.length ≤ l.length) :
    ∃ w', (Builtin.copy_ #[dT, sT] ty #[.slice (some ⟨g, o, none⟩) dLen dCap, .slice a data.length c2]).run P w = .ok (goInt data.length) w' ∧
      St B w0 w' (row e 1 (.slice (some ⟨g, 0, none⟩) n c) n (bvs (l.take o ++ data ++ l.drop (o + data.length))) * R) := by
  by_cases h0 : data.length = 0
  · have e0 : data = [] := List.eq_nil_of_length_eq_zero h0
    subst e0
    refine ⟨w, run_copy_none w dT sT ty e _ _ _ _ _ _ hu hs (by simp), ?_⟩
    simpa using s
  · obtain ⟨-, -, -, -, hr⟩ := hd.rd
    obtain ⟨b, off, rfl, hc⟩ := hr.at (by intro e; have := congrArg List.length e; rw [List.length_map, List.length_nil] at this; exact h0 this)
    obtain ⟨hl, h⟩ := s.rowOpen
    rcases h with ⟨e1, _, _⟩ | ⟨g', c', cur, e1, h3, h4, h5, h6, t⟩
    · cases e1
    cases e1
    rw [Nat.mul_one] at h5 h6
    have hn : n = l.length := by simpa using hl.symm
    have hrun := run_copy_row (P := P) w dT sT ty e g o dLen dCap ⟨b, off, none⟩ data.length c2 cur e (bvs data) hu hs t.block (by rw [List.length_map]; exact (Nat.min_eq_left h1).symm) (fun j v hj => by
      rw [Addr.add_lit]
      exact hc j v hj) (by rw [List.length_map]; omega) (bvs_one _)
    rw [List.length_map] at hrun
    refine ⟨_, hrun, ?_⟩
    refine (t.setRow _).rowMk h3 h4 (by simp; omega) ?_
    rw [Nat.mul_one]
    obtain ⟨D, hD⟩ : ∃ D, cur.toList = bvs l ++ D := ⟨cur.toList.drop n, by rw [← h6]; exact (List.take_append_drop _ _).symm⟩
    show List.take n (cur.toList.take o ++ bvs data ++ cur.toList.drop (o + data.length)) = _
    have q1 : (bvs l ++ D).take o = (bvs l).take o := List.take_append_of_le_length (by rw [List.length_map]; omega)
    have q2 : (bvs l ++ D).drop (o + data.length) = (bvs l).drop (o + data.length) ++ D := List.drop_append_of_le_length (by rw [List.length_map]; omega)
    rw [hD, q1, q2, ← List.append_assoc, List.take_left' (by simp; omega)]
    simp [bvs, List.map_take, List.map_drop]
end Go.Proofs.Ytjnfhppjkadlpaa.Sp
