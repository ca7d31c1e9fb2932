/- Arguments that are slices of structs, read element by element. Program-free; no condition. -/
import Derived.Test.YtjnfhppjkadlpaaArg
import Derived.Deep.Slices
import Derived.Deep.Fields
import Derived.ChangeArms
namespace Go.Proofs.Ytjnfhppjkadlpaa.Sp
open Go Go.RowKit Go.ChangeShapes Go.WideShapes Go.ChangeAt Go.Deep

theorem byte_of {n : Int} (h : (Lit.int .u8 n).wf = true) : ∃ b : UInt8, n = (b.toNat : Int) := by
  have hb : 0 ≤ n ∧ n ≤ 255 := by simpa [Lit.wf, IntKind.min, IntKind.max, IntKind.signed, IntKind.bits] using h
  refine ⟨UInt8.ofNat n.toNat, ?_⟩
  rw [UInt8.toNat_ofNat']
  omega
/-- A slice whose elements, k cells each, read as these. -/
def Elems {E : Type} (RE : World → List Value → E → Prop) (k : Nat) (w : World) (v : Value) (ys : List E) : Prop :=
  ∃ a c, v = .slice a ys.length c ∧ ys.length ≤ c ∧ c ≤ maxLen ∧ (a = none → c = 0) ∧ (ys = [] ∨ ∃ b off, a = some ⟨b, off, none⟩ ∧ b < w.heap.size ∧ ∀ i (h : i < ys.length), ∃ cs, cs.length = k ∧ RE w cs ys[i] ∧ ∀ j, j < k → w.cell? ⟨b, off + i * k + j, none⟩ = cs[j]?)
theorem Elems.below {E : Type} {RE : World → List Value → E → Prop} {k : Nat} {w w' : World} {v : Value} {ys : List E} (h : Elems RE k w v ys) (hRE : ∀ cs y, RE w cs y → RE w' cs y) (hb : Below w.heap.size w w') : Elems RE k w' v ys := by
  obtain ⟨a, c, h1, h2, h3, h4, h5⟩ := h
  refine ⟨a, c, h1, h2, h3, h4, ?_⟩
  rcases h5 with h5 | ⟨b, off, h6, h7, h8⟩
  · exact .inl h5
  · refine .inr ⟨b, off, h6, Nat.lt_of_lt_of_le h7 hb.size, fun i hi => ?_⟩
    obtain ⟨cs, g1, g2, g3⟩ := h8 i hi
    refine ⟨cs, g1, hRE _ _ g2, fun j hj => ?_⟩
    rw [← g3 j hj]
    exact Below.cell (p := ⟨b, off + i * k + j, none⟩) hb h7
/-- An argument's elements, read later. -/
theorem Elems.st {E : Type} {RE : World → List Value → E → Prop} {k : Nat} {w0 w : World} {H : HP} {v : Value} {ys : List E} (h : Elems RE k w0 v ys) (hRE : ∀ cs y, RE w0 cs y → RE w cs y) (s : St w0.heap.size w0 w H) : Elems RE k w v ys :=
  h.below hRE s.below
/-- One element. -/
theorem Elems.at {E : Type} {RE : World → List Value → E → Prop} {k : Nat} {w : World} {a : Option Addr} {n c : Nat} {ys : List E} (h : Elems RE k w (.slice a n c) ys) (i : Nat) (hi : i < ys.length) :
    ∃ b off cs, a = some ⟨b, off, none⟩ ∧ cs.length = k ∧ RE w cs ys[i] ∧ ∀ j, j < k → w.cell? ⟨b, off + i * k + j, none⟩ = cs[j]? := by
  obtain ⟨a', c', e, h2, h3, h4, h5⟩ := h
  cases e
  rcases h5 with h5 | ⟨b, off, h6, h7, h8⟩
  · subst h5; simp at hi
  · obtain ⟨cs, g1, g2, g3⟩ := h8 i hi
    exact ⟨b, off, cs, h6, g1, g2, g3⟩
/-- One element of an argument, whose cells are read later. -/
theorem Elems.arg {E : Type} {RE : World → List Value → E → Prop} {k : Nat} {w0 : World} {a : Option Addr} {n c : Nat} {ys : List E} (h : Elems RE k w0 (.slice a n c) ys) (i : Nat) (hi : i < ys.length) :
    ∃ b off cs, a = some ⟨b, off, none⟩ ∧ cs.length = k ∧ RE w0 cs ys[i] ∧ ∀ (w : World) (H : HP), St w0.heap.size w0 w H → ∀ j, j < k → w.cell? ⟨b, off + i * k + j, none⟩ = cs[j]? := by
  obtain ⟨b, off, cs, h1, h2, h3, h4⟩ := h.at i hi
  refine ⟨b, off, cs, h1, h2, h3, fun w H s j hj => ?_⟩
  have q := h4 j hj
  rw [List.getElem?_eq_getElem (by omega)] at q ⊢
  have hlt := World.block_lt_of_cell? w0 _ q
  rw [← q]
  exact Below.cell (p := ⟨b, off + i * k + j, none⟩) s.below hlt
section
variable {H : Type} {enc : TypeId × Value → H} {P : Program} {W : World} {base : Nat} {held : Bool}
/-- A slice of bytes. -/
theorem open_bytes {t e : TypeId} {fuel : Nat} {cs : List Value} {x : DataW H × List MemPlace} (ht : P.underlying t = some (.slice e)) (he : P.underlying e = some (.int .u8)) (hc : P.cellsOf e = 1)
    (h : DataW.trod enc P W base (fun _ => true) held fuel t cs = some x) : ∃ v bs, cs = [v] ∧ BS W v bs := by
  rcases open_ints ht he hc h with ⟨rfl, _⟩ | ⟨a, len, cap, zs, rfl, _, hl, hm, hz, _, hcell, hwz⟩
  · exact ⟨_, [], rfl, BS.nil W⟩
  · obtain ⟨bs, e, hb⟩ := BS.ofRow (w := W) (a := some a) (len := len) (cap := cap) (zs := zs) (.inr ⟨_, rfl, hl, hm, by simpa using hz, hcell, hwz⟩)
    exact ⟨_, bs, rfl, hb⟩
theorem open_elems {E : Type} {RE : World → List Value → E → Prop} {k : Nat} {t e : TypeId} {fuel : Nat} {a : Option Addr} {len cap : Nat} {x : DataW H × List MemPlace} (ht : P.underlying t = some (.slice e)) (hk : P.cellsOf e = k) (hpos : 0 < k)
    (helem : ∀ (fuel : Nat) (cs : List Value) (x : DataW H × List MemPlace), cs.length = k → DataW.trod enc P W base (fun _ => true) held fuel e cs = some x → ∃ y, RE W cs y)
    (h : DataW.trod enc P W base (fun _ => true) held fuel t (Value.cells (.slice a len cap)).toList = some x) : ∃ ys : List E, len = ys.length ∧ Elems RE k W (.slice a len cap) ys := by
  rcases open_slice ht h with ⟨hcs, _⟩ | ⟨ad, l, c, m, n, D, Pl, hcs, hb, hl, hm, hmm, hx, hi⟩ <;> simp [Value.cells] at hcs
  · obtain ⟨rfl, rfl, rfl⟩ := hcs
    exact ⟨[], rfl, none, 0, rfl, Nat.le_refl _, Nat.zero_le _, fun _ => rfl, .inl rfl⟩
  · obtain ⟨rfl, rfl, rfl⟩ := hcs
    simp only [if_true] at hmm
    have hmm' := hmm.symm
    subst hmm'
    have each : ∀ i, ∃ y : List Value × Option E, i < cap → ∃ z, y.2 = some z ∧ y.1.length = k ∧ RE W y.1 z ∧ ∀ j, j < k → W.cell? ((ad.add (i * k)).add j) = y.1[j]? := fun i => by
      by_cases hic : i < cap
      · obtain ⟨cs', h1, h2⟩ := hi i hic
        rw [hk] at h1
        obtain ⟨_, h3, h4⟩ := World.cells?_some h1
        obtain ⟨z, hz⟩ := helem n cs' _ h3 h2
        exact ⟨(cs', some z), fun _ => ⟨z, rfl, h3, hz, h4⟩⟩
      · exact ⟨([], none), fun g => absurd g hic⟩
    obtain ⟨f, hf⟩ := Classical.axiomOfChoice each
    by_cases h0 : len = 0
    · subst h0
      exact ⟨[], rfl, _, _, rfl, Nat.zero_le _, hm, (fun e => by cases e), .inl rfl⟩
    · obtain ⟨z0, q1, q2, q3, q4⟩ := hf 0 (by omega)
      have hne : Nonempty E := ⟨z0⟩
      let dflt : E := z0
      have c0 := q4 0 hpos
      rw [List.getElem?_eq_getElem (by omega)] at c0
      obtain ⟨b, off, spot⟩ := ad
      have hs : spot = none := by
        cases spot with
        | none => rfl
        | some s =>
          exfalso
          revert c0
          simp only [Addr.add, World.cell?]
          split <;> simp
      subst hs
      have hlt : b < W.heap.size := by
        have := World.block_lt_of_cell? W _ c0
        simpa [Addr.add_lit] using this
      refine ⟨(List.range len).map fun i => (f i).2.getD dflt, by simp, _, cap, by simp, by simpa using hl, hm, (fun e => by cases e), .inr ⟨b, off, rfl, hlt, fun i hi => ?_⟩⟩
      have hi' : i < len := by simpa using hi
      obtain ⟨z, r1, r2, r3, r4⟩ := hf i (by omega)
      refine ⟨(f i).1, r2, ?_, fun j hj => ?_⟩
      · simp only [List.getElem_map, List.getElem_range, r1, Option.getD_some]
        exact r3
      · have := r4 j hj
        simpa [Addr.add_lit] using this
/-- A struct's fields. -/
theorem open_fields {t : TypeId} {fs : Array Field} {L : List (TypeId × Nat)} {fuel : Nat} {cs : List Value} {x : DataW H × List MemPlace} {spare : Nat → Bool} (hs : P.underlying t = some (.struct fs)) (hL : fs.toList.map (fun f => (f.type, f.offset)) = L)
    (h : DataW.trod enc P W base spare held fuel t cs = some x) : cs.length = P.cellsOf t ∧ ∀ (i : Nat) (ty : TypeId) (off : Nat), L[i]? = some (ty, off) → ∃ n y, DataW.trod enc P W base spare held n ty ((cs.drop off).take (P.cellsOf ty)) = some y := by
  obtain ⟨xs, n, _, _, hl, hxl, hf⟩ := DataW.trod_struct hs h
  refine ⟨hl, fun i ty off hi => ?_⟩
  rw [← hL, List.getElem?_map] at hi
  cases hfi : fs.toList[i]? with
  | none => rw [hfi] at hi; simp at hi
  | some f =>
    rw [hfi] at hi
    simp only [Option.map_some, Option.some.injEq, Prod.mk.injEq] at hi
    have hfi' : fs[i]? = some f := by simpa using hfi
    have hlt : i < fs.size := (Array.getElem?_eq_some_iff.1 hfi').1
    have q := hf i f hfi'
    rw [hi.1, hi.2, List.getElem?_eq_getElem (by omega)] at q
    exact ⟨n, _, q⟩
theorem open_str {t : TypeId} {fuel : Nat} {cs : List Value} {x : DataW H × List MemPlace} {spare : Nat → Bool} (ht : P.underlying t = some .string) (h : DataW.trod enc P W base spare held fuel t cs = some x) : ∃ l : List UInt8, cs = [str l] ∧ l.length ≤ maxLen := by
  obtain ⟨s, h1, _, h2⟩ := DataW.trod_string ht h
  refine ⟨s.data.toList, h1, ?_⟩
  have e : s.data.toList.length = s.size := Array.length_toList
  rw [e]; exact h2
end
/-- A text's beginning. -/
theorem run_strTo {P : Program} {t : TypeId} (ht : P.underlying t = some .string) (w : World) (bs : List UInt8) (k' : IntKind) (n : Nat) (h : n ≤ bs.length) :
    (Instr.sliceAt t (str bs) none (some (.int k' (n : Int))) none).run P w = .ok (str (bs.take n)) w := by
  have hsz : (⟨bs.toArray⟩ : ByteArray).size = bs.length := by simp [ByteArray.size]
  have he : (⟨bs.toArray⟩ : ByteArray).extract 0 n = ⟨(bs.take n).toArray⟩ := by
    apply ByteArray.ext
    simp [ByteArray.data_extract]
  rw [run_sliceAt_string w t _ _ _ _ ht]
  unfold str
  simp [Instr.slice, run_underlying ht, Instr.sliceBounds, run_sliceBound, hsz, h, he]
theorem str_add (x y : List UInt8) : (⟨x.toArray⟩ : ByteArray) ++ ⟨y.toArray⟩ = ⟨(x ++ y).toArray⟩ := ByteArray.mk_append_mk x y
end Go.Proofs.Ytjnfhppjkadlpaa.Sp
