/- Arguments opened: slices of numbers, their size within the reach. No condition. -/
import Derived.Test.YtjnfhppjkadlpaaSp
import Derived.ProofKit
import Derived.OpenShut
import Derived.SizedLaws
import Derived.Deep.Matrix
namespace Go.Proofs.Ytjnfhppjkadlpaa.Sp
open Go Go.RowKit Go.ChangeShapes Go.WideShapes Go.ChangeAt

/-- A slice of numbers that can be read as data takes no more than the reach. -/
theorem sized_ints {H : Type} {enc : TypeId × Value → H} {P : Program} {W : World} {base : Nat} {spare : Nat → Bool} {held : Bool} {t e : TypeId} {k : IntKind} {a : Option Addr} {len cap : Nat} {d : DataW H} {ps : List MemPlace}
    {ts : List TypeId} {ds : List (DataW H)} {j : Nat} (hsz : (DataW.weightsEach P ts ds).all (· ≤ reachBytes) = true) (ht : ts[j]? = some t) (hd : ds[j]? = some d) (hu : P.underlying t = some (.slice e))
    (he : P.underlying e = some (.int k)) (hc : P.cellsOf e = 1) {b : Nat} (hb : P.bytesOf e = b) (h : DataW.Trod enc P W base spare held t (.slice a len cap) d ps) : len * b ≤ 140737488351232 := by
  obtain ⟨fuel, hf⟩ := h
  rcases open_ints hu he hc hf with ⟨hcs, _⟩ | ⟨x, l, c, zs, hcs, _, hl, _, hz, hx, _, _⟩ <;> simp [Value.cells] at hcs
  · rw [hcs.2.1]; omega
  · obtain ⟨rfl, rfl, rfl⟩ := hcs
    rw [(Prod.mk.inj hx).1] at hd
    have q := sized_slice hsz ht hd hu
    rw [hb] at q
    refine Nat.le_trans (Nat.mul_le_mul_right b ?_) q
    have : zs.length = (zs.take len).length + (zs.drop len).length := by rw [← List.length_append, List.take_append_drop]
    have h2 : len ≤ zs.length := by rw [hz]; split <;> omega
    simp only [lits, List.length_map]
    omega
/-- An argument of slices of bytes. -/
theorem open_bss {H : Type} {enc : TypeId × Value → H} {P : Program} {W : World} {base : Nat} {held : Bool} {t e q : TypeId} {fuel : Nat} {a : Option Addr} {len cap : Nat} {x : DataW H × List MemPlace} (ht : P.underlying t = some (.slice e))
    (he : P.underlying e = some (.slice q)) (hq : P.underlying q = some (.int .u8)) (ce : P.cellsOf e = 1) (cq : P.cellsOf q = 1) (h : DataW.trod enc P W base (fun _ => true) held fuel t (Value.cells (.slice a len cap)).toList = some x) :
    ∃ bss : List (List UInt8), len = bss.length ∧ BSS W (.slice a len cap) bss := by
  rcases Go.Deep.open_int_rows ht he hq ce cq h with ⟨hcs, _⟩ | ⟨ad, l, c, A, L, C, Z, hcs, _, hl, hm, _, hr⟩ <;> simp [Value.cells] at hcs
  · obtain ⟨rfl, rfl, rfl⟩ := hcs
    exact ⟨[], rfl, none, 0, [], rfl, .inl rfl, rfl, Nat.le_refl _, Nat.zero_le _, fun _ => rfl, fun i hi => absurd hi (by simp)⟩
  · obtain ⟨rfl, rfl, rfl⟩ := hcs
    have each : ∀ r, r < cap → ∃ bs : List UInt8, L r = bs.length ∧ BS W (.slice (A r) (L r) (C r)) bs := by
      intro r hrc
      obtain ⟨_, h2, h3, h4, h5, h6, h7⟩ := hr r hrc
      refine BS.ofRow (zs := Z r) ?_
      cases hA : A r with
      | none =>
        have := h6 hA
        exact .inl ⟨rfl, by omega, this, List.eq_nil_of_length_eq_zero (by omega)⟩
      | some a' => exact .inr ⟨a', rfl, h2, h3, h4, fun i hi => (h7 a' hA).2 i (by omega), h5⟩
    have each' : ∀ r, ∃ bs : List UInt8, r < cap → L r = bs.length ∧ BS W (.slice (A r) (L r) (C r)) bs := fun r => by
      by_cases hrc : r < cap
      · obtain ⟨bs, hb⟩ := each r hrc; exact ⟨bs, fun _ => hb⟩
      · exact ⟨[], fun k => absurd k hrc⟩
    obtain ⟨f, hf⟩ := Classical.axiomOfChoice each'
    refine ⟨(List.range len).map f, by simp, some ad, cap, (List.range len).map fun r => .slice (A r) (L r) (C r), by simp, ?_, by simp, by simpa using hl, hm, (fun e => by cases e), fun i hi => ?_⟩
    · by_cases h0 : len = 0
      · subst h0; exact .inl rfl
      · have c0 := (hr 0 (by omega)).1
        obtain ⟨b, off, spot⟩ := ad
        have hs : spot = none := by
          cases spot with
          | none => rfl
          | some s =>
            simp only [Addr.add, if_pos, World.cell?] at c0
            split at c0 <;> simp at c0
        subst hs
        refine .inr ⟨b, off, rfl, fun j u hj => ?_⟩
        have hjl : j < len := by simpa using (List.getElem?_eq_some_iff.1 hj).1
        rw [List.getElem?_map, List.getElem?_range hjl] at hj
        simp only [Option.map_some, Option.some.injEq] at hj
        rw [← hj]
        have := (hr j (by omega)).1
        rwa [Addr.add_lit] at this
    · have hi' : i < len := by simpa using hi
      refine ⟨.slice (A i) (L i) (C i), by simp [hi'], ?_⟩
      simpa using (hf i (by omega)).2
end Go.Proofs.Ytjnfhppjkadlpaa.Sp
