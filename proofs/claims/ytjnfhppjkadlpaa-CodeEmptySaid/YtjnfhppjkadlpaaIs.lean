/- Slices of ints that can be read. Program-free; no condition. -/
import Derived.Test.YtjnfhppjkadlpaaSp
namespace Go.Proofs.Ytjnfhppjkadlpaa.Sp
open Go Go.RowKit
abbrev ivs (l : List Int) : List Value := l.map (Value.int .i64)
/-- A slice of ints that reads as these. -/
def IS (w : World) (v : Value) (ns : List Int) : Prop :=
  ∃ a c, v = .slice a ns.length c ∧ ns.length ≤ c ∧ c ≤ maxLen ∧ (a = none → c = 0) ∧ Rd w a (ivs ns)
theorem IS.below {w w' : World} {v : Value} {ns : List Int} (h : IS w v ns) (hb : Below w.heap.size w w') : IS w' v ns := by
  obtain ⟨a, c, h1, h2, h3, h4, h5⟩ := h
  exact ⟨a, c, h1, h2, h3, h4, h5.below hb⟩
theorem IS.st {B : Nat} {w0 w : World} {H : HP} {v : Value} {ns : List Int} (h : IS w0 v ns) (hB : B = w0.heap.size) (s : St B w0 w H) : IS w v ns := by
  obtain ⟨a, c, h1, h2, h3, h4, h5⟩ := h
  exact ⟨a, c, h1, h2, h3, h4, h5.st hB s⟩
theorem IS.rd {w : World} {a : Option Addr} {n c : Nat} {ns : List Int} (h : IS w (.slice a n c) ns) : n = ns.length ∧ ns.length ≤ c ∧ c ≤ maxLen ∧ (a = none → c = 0) ∧ Rd w a (ivs ns) := by
  obtain ⟨a', c', e, h2, h3, h4, h5⟩ := h
  cases e
  exact ⟨rfl, h2, h3, h4, h5⟩
theorem IS.cellAt {w : World} {b off n c : Nat} {ns : List Int} (h : IS w (.slice (some ⟨b, off, none⟩) n c) ns) (j : Nat) (hj : j < ns.length) : w.cell? ⟨b, off + j, none⟩ = some (.int .i64 ns[j]) := by
  obtain ⟨-, -, -, -, hr⟩ := h.rd
  obtain ⟨b', off', e, hc⟩ := hr.at (by intro h0; have := congrArg List.length h0; rw [List.length_map, List.length_nil] at this; omega)
  cases e
  exact hc j _ (by simp [ivs, hj])
theorem IS.head {w : World} {a : Option Addr} {n c : Nat} {ns : List Int} (h : IS w (.slice a n c) ns) (h0 : 0 < ns.length) : ∃ b off, a = some ⟨b, off, none⟩ := by
  obtain ⟨-, -, -, -, hr⟩ := h.rd
  obtain ⟨b', off', e, hc⟩ := hr.at (by intro h1; have := congrArg List.length h1; rw [List.length_map, List.length_nil] at this; omega)
  exact ⟨b', off', e⟩
theorem IS.ofRow {w : World} {a : Option Addr} {len cap : Nat} {zs : List Int} (h : IsRow .i64 w a len cap zs) : ∃ ns : List Int, len = ns.length ∧ IS w (.slice a len cap) ns := by
  obtain ⟨h1, h2, h3, h4, h5, h6⟩ := Rd.ofRow h
  exact ⟨zs.take len, h2.symm, a, cap, by rw [h2], by rw [h2]; exact h3, h4, h5, h1⟩
/-- Ints that can be read wherever these are owned. -/
def IReads (B : Nat) (w0 : World) (R : HP) (v : Value) (ns : List Int) : Prop := ∀ w H, St B w0 w (H * R) → IS w v ns
theorem ireads_arg {w0 : World} {v : Value} {ns : List Int} (R : HP) (h : IS w0 v ns) : IReads w0.heap.size w0 R v ns := fun _ _ s => h.st rfl s
theorem ireads_left {B : Nat} {w0 : World} {R : HP} {v : Value} {ns : List Int} (X : HP) (h : IReads B w0 R v ns) : IReads B w0 (X * R) v ns := fun _ H s => h _ (H * X) (s.eq (sep_assoc _ _ _).symm)
theorem ireads_right {B : Nat} {w0 : World} {R : HP} {v : Value} {ns : List Int} (X : HP) (h : IReads B w0 R v ns) : IReads B w0 (R * X) v ns := fun _ H s => h _ (H * X) (s.eq (by ac_rfl))
theorem ireads_lit {B : Nat} {w0 : World} {t : TypeId} {f : Nat × Nat} {g n : Nat} {C : Array Value} {ns : List Int} (hC : C = (ivs ns).toArray) (hn : n = ns.length) (h : ns.length ≤ maxLen) :
    IReads B w0 (pts g (.cells C t f)) (.slice (some ⟨g, 0, none⟩) n n) ns := fun _ _ s => by
  subst hn
  subst hC
  refine ⟨_, _, rfl, Nat.le_refl _, h, (fun e => by cases e), ?_⟩
  have q := (s.eq (sep_comm _ _)).rd 0 ns.length
  have e : (((ivs ns).toArray.toList.drop 0).take ns.length) = ivs ns := by simp [List.take_of_length_le]
  rw [e] at q
  exact q
/-- A row of ints. -/
theorem St.iS {B : Nat} {w0 w : World} {R : HP} {e : TypeId} {v : Value} {n : Nat} {l : List Int} (s : St B w0 w (row e 1 v n (ivs l) * R)) : IS w v l := by
  obtain ⟨hl, h⟩ := s.rowOpen
  have hn : n = l.length := by simpa using hl.symm
  subst hn
  rcases h with ⟨rfl, h0, _⟩ | ⟨g, cap, cur, rfl, h1, h2, h3, h4, t⟩
  · have : l = [] := List.eq_nil_of_length_eq_zero h0
    subst this
    exact ⟨none, 0, rfl, by simp, by simp, fun _ => rfl, .nil _ _⟩
  · exact ⟨_, _, rfl, h1, h2, (fun e => by cases e), s.rowRd⟩
end Go.Proofs.Ytjnfhppjkadlpaa.Sp
