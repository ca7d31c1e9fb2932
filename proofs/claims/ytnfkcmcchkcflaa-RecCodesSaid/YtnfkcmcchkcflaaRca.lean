/- An argument that is a record, opened. No condition. -/
import Derived.Test.YtnfkcmcchkcflaaRcW
import Derived.Test.YtnfkcmcchkcflaaSlo
set_option linter.unusedSimpArgs false
set_option linter.unusedVariables false
namespace Go.Proofs.Ytnfkcmcchkcflaa.RcL
open Go Go.RowKit Go.Proofs.Ytnfkcmcchkcflaa Go.Proofs.Ytnfkcmcchkcflaa.Sp Go.Proofs.Ytnfkcmcchkcflaa.Reg Go.Proofs.Ytnfkcmcchkcflaa.RcM Go.Proofs.Ytnfkcmcchkcflaa.RcW
open Go.ChangeShapes Go.WideShapes Go.ChangeAt Go.Deep
section
variable {H : Type} {enc : TypeId × Value → H} {W : World} {base : Nat} {held : Bool}
def RLoc (_w : World) (cs : List Value) (y : Lc) : Prop := cs = lcC y
theorem open_loc (fuel : Nat) (cs : List Value) (x : DataW H × List MemPlace) (hl : cs.length = 3) (h : DataW.trod enc Try.prog W base (fun _ => true) held fuel 31 cs = some x) : ∃ y, RLoc W cs y := by
  obtain ⟨-, hf⟩ := open_fields Try.underlying31 (L := [(3, 0), (3, 1), (3, 2)]) (by kernel_rfl) h
  match cs, hl with
  | [u0, u1, u2], _ =>
    obtain ⟨n0, y0, h0⟩ := hf 0 _ _ rfl
    obtain ⟨n1, y1, h1⟩ := hf 1 _ _ rfl
    obtain ⟨n2, y2, h2⟩ := hf 2 _ _ rfl
    rw [show Try.prog.cellsOf 3 = 1 by kernel_rfl] at h0 h1 h2
    obtain ⟨m0, e0, -, g0⟩ := DataW.trod_int Try.underlying3 h0
    obtain ⟨m1, e1, -, g1⟩ := DataW.trod_int Try.underlying3 h1
    obtain ⟨m2, e2, -, g2⟩ := DataW.trod_int Try.underlying3 h2
    simp at e0 e1 e2
    subst e0 e1 e2
    exact ⟨⟨m0, m1, m2⟩, rfl⟩
theorem open_tab (fuel : Nat) (cs : List Value) (x : DataW H × List MemPlace) (hl : cs.length = 6) (h : DataW.trod enc Try.prog W base (fun _ => true) held fuel 25 cs = some x) : ∃ t : Tb, cs = tbC t := by
  obtain ⟨-, hf⟩ := open_fields Try.underlying25 (L := [(3, 0), (3, 1), (3, 2), (3, 3), (3, 4), (3, 5)]) (by kernel_rfl) h
  match cs, hl with
  | [u0, u1, u2, u3, u4, u5], _ =>
    obtain ⟨n0, y0, h0⟩ := hf 0 _ _ rfl
    obtain ⟨n1, y1, h1⟩ := hf 1 _ _ rfl
    obtain ⟨n2, y2, h2⟩ := hf 2 _ _ rfl
    obtain ⟨n3, y3, h3⟩ := hf 3 _ _ rfl
    obtain ⟨n4, y4, h4⟩ := hf 4 _ _ rfl
    obtain ⟨n5, y5, h5⟩ := hf 5 _ _ rfl
    rw [show Try.prog.cellsOf 3 = 1 by kernel_rfl] at h0 h1 h2 h3 h4 h5
    obtain ⟨m0, e0, -, g0⟩ := DataW.trod_int Try.underlying3 h0
    obtain ⟨m1, e1, -, g1⟩ := DataW.trod_int Try.underlying3 h1
    obtain ⟨m2, e2, -, g2⟩ := DataW.trod_int Try.underlying3 h2
    obtain ⟨m3, e3, -, g3⟩ := DataW.trod_int Try.underlying3 h3
    obtain ⟨m4, e4, -, g4⟩ := DataW.trod_int Try.underlying3 h4
    obtain ⟨m5, e5, -, g5⟩ := DataW.trod_int Try.underlying3 h5
    simp at e0 e1 e2 e3 e4 e5
    subst e0 e1 e2 e3 e4 e5
    exact ⟨⟨m0, m1, m2, m3, m4, m5⟩, rfl⟩
/-- A slice of Ints among cells. -/
theorem open_isl {fuel : Nat} {cs : List Value} {x : DataW H × List MemPlace} (h : DataW.trod enc Try.prog W base (fun _ => true) held fuel 22 cs = some x) : ∃ v ns, cs = [v] ∧ IS W v ns := by
  rcases open_ints Try.underlying22 Try.underlying3 (by kernel_rfl) h with ⟨rfl, _⟩ | ⟨a, len, cap, zs, rfl, _, hl, hm, hz, _, hcell, hwz⟩
  · exact ⟨_, [], rfl, none, 0, rfl, Nat.le_refl _, Nat.zero_le _, fun _ => rfl, .nil _ _⟩
  · obtain ⟨ns, e, hb⟩ := IS.ofRow (w := W) (a := some a) (len := len) (cap := cap) (zs := zs) (.inr ⟨_, rfl, hl, hm, by simpa using hz, hcell, hwz⟩)
    exact ⟨_, ns, rfl, hb⟩
theorem flat3' (ls : List Lc) : (ls.flatMap lcC).length = 3 * ls.length := by
  induction ls with
  | nil => rfl
  | cons a l ih => simp [lcC, ih]; omega
theorem ls_of {a : Option Addr} {n c : Nat} {ls : List Lc} (h : Elems RLoc 3 W (.slice a n c) ls) : LS W (.slice a n c) ls := by
  obtain ⟨a', c', e, h1, h2, h3, h4⟩ := h
  cases e
  refine ⟨_, _, rfl, h1, h2, h3, ?_⟩
  rcases h4 with rfl | ⟨b, off, rfl, hlt, hc⟩
  · exact .nil _ _
  · refine .inr ⟨b, off, rfl, fun j u hj => ?_⟩
    have hj' : j < 3 * ls.length := by rw [← flat3']; exact (List.getElem?_eq_some_iff.1 hj).1
    have hi : j / 3 < ls.length := by omega
    obtain ⟨cs, hl, hR, hcell⟩ := hc (j / 3) hi
    have hR' : cs = lcC ls[j / 3] := hR
    have q := hcell (j % 3) (by omega)
    rw [hR', ← lc_at ls (j / 3) hi (j % 3) (by omega), show 3 * (j / 3) + j % 3 = j by omega, hj] at q
    rw [← q]
    congr 2
    omega
theorem open_lsl {fuel : Nat} {cs : List Value} {x : DataW H × List MemPlace} (h : DataW.trod enc Try.prog W base (fun _ => true) held fuel 23 cs = some x) : ∃ v ls, cs = [v] ∧ LS W v ls := by
  rcases open_slice Try.underlying23 h with ⟨rfl, _⟩ | ⟨ad, l, c, m, n, D, Pl, rfl, _⟩
  · exact ⟨_, [], rfl, none, 0, rfl, Nat.le_refl _, Nat.zero_le _, fun _ => rfl, .nil _ _⟩
  · obtain ⟨ys, e, q⟩ := open_elems (enc := enc) (base := base) (held := held) (RE := RLoc) (k := 3) (a := some ad) (len := l) (cap := c) Try.underlying23 (by kernel_rfl) (by decide) open_loc (by simpa [Value.cells] using h)
    exact ⟨_, ys, rfl, ls_of q⟩
theorem arr13 {α : Type} {cs : Array α} (h : cs.size = 13) : ∃ c0 c1 c2 c3 c4 c5 c6 c7 c8 c9 c10 c11 c12, cs = #[c0, c1, c2, c3, c4, c5, c6, c7, c8, c9, c10, c11, c12] := by
  obtain ⟨l⟩ := cs
  match l, h with
  | [c0, c1, c2, c3, c4, c5, c6, c7, c8, c9, c10, c11, c12], _ => exact ⟨c0, c1, c2, c3, c4, c5, c6, c7, c8, c9, c10, c11, c12, rfl⟩
theorem open_rec {r : Reach} {b0 : Nat} {v : Value} {d : DataW H} {ps : List MemPlace} (hval : Value.okWide Try.prog W r b0 27 v) (hd : DataW.Trod enc Try.prog W base (fun _ => true) held 27 v d ps) :
    ∃ (q : RcM.Rc) (sv lv : Value), v = rcV q sv lv ∧ IS W sv q.sids ∧ LS W lv q.locs ∧ q.key.length ≤ maxLen := by
  simp only [Value.okWide, Try.underlying27] at hval
  obtain ⟨cs, rfl, hs, -⟩ := hval
  rw [show Try.prog.cellsOf 27 = 13 by kernel_rfl] at hs
  obtain ⟨c0, c1, c2, c3, c4, c5, c6, c7, c8, c9, c10, c11, c12, rfl⟩ := arr13 hs
  obtain ⟨fuel, hf⟩ := hd
  obtain ⟨-, hf⟩ := open_fields Try.underlying27 (L := [(3, 0), (9, 1), (3, 2), (3, 3), (22, 4), (3, 5), (23, 6), (25, 7)]) (by kernel_rfl) hf
  obtain ⟨n0, y0, h0⟩ := hf 0 _ _ rfl
  obtain ⟨n1, y1, h1⟩ := hf 1 _ _ rfl
  obtain ⟨n2, y2, h2⟩ := hf 2 _ _ rfl
  obtain ⟨n3, y3, h3⟩ := hf 3 _ _ rfl
  obtain ⟨n4, y4, h4⟩ := hf 4 _ _ rfl
  obtain ⟨n5, y5, h5⟩ := hf 5 _ _ rfl
  obtain ⟨n6, y6, h6⟩ := hf 6 _ _ rfl
  obtain ⟨n7, y7, h7⟩ := hf 7 _ _ rfl
  rw [show Try.prog.cellsOf 3 = 1 by kernel_rfl] at h0 h2 h3 h5
  rw [show Try.prog.cellsOf 9 = 1 by kernel_rfl] at h1
  rw [show Try.prog.cellsOf 22 = 1 by kernel_rfl] at h4
  rw [show Try.prog.cellsOf 23 = 1 by kernel_rfl] at h6
  rw [show Try.prog.cellsOf 25 = 6 by kernel_rfl] at h7
  obtain ⟨m0, e0, -, -⟩ := DataW.trod_int Try.underlying3 h0
  obtain ⟨k, e1, hk⟩ := open_str Try.underlying9 h1
  obtain ⟨m2, e2, -, -⟩ := DataW.trod_int Try.underlying3 h2
  obtain ⟨m3, e3, -, -⟩ := DataW.trod_int Try.underlying3 h3
  obtain ⟨sv, ns, e4, hS⟩ := open_isl h4
  obtain ⟨m5, e5, -, -⟩ := DataW.trod_int Try.underlying3 h5
  obtain ⟨lv, ls, e6, hL⟩ := open_lsl h6
  obtain ⟨t, e7⟩ := open_tab _ _ _ (by simp [Value.cells]) h7
  simp [Value.cells] at e0 e1 e2 e3 e4 e5 e6
  simp [Value.cells, tbC] at e7
  obtain ⟨e7, e8, e9, e10, e11, e12⟩ := e7
  subst e0 e1 e2 e3 e4 e5 e6 e7 e8 e9 e10 e11 e12
  exact ⟨⟨m0, k, m2, m3, ns, m5, ls, t⟩, _, _, rfl, hS, hL, hk⟩
end
end Go.Proofs.Ytnfkcmcchkcflaa.RcL
