/- Separation logic over the model's heap, program-free: ownership of blocks from a base on; what stays below it. No condition. -/
import Derived.WalkKit
import Derived.WalkSpells
import Derived.WalkLawsBesides
import Derived.Laws.MakeOwn
import Derived.Laws.OwnMore
import Derived.Lib.Hide
import Derived.Deep.Draws
import Derived.Deep.QuietTactic
import Derived.BigQuiet
import Derived.Outline
namespace Go.Proofs.Ytjnfhppjkadlpaa.Sp
open Go Go.RowKit

/-! ### heaplets -/
/-- A part of the heap: block number to object. -/
abbrev Part := Nat → Option Obj
def disj (a b : Part) : Prop := ∀ k, a k = none ∨ b k = none
def uni (a b : Part) : Part := fun k => (a k).or (b k)
def HP : Type := Part → Prop
def HP.sep (P Q : HP) : HP := fun h => ∃ a b, disj a b ∧ h = uni a b ∧ P a ∧ Q b
instance : Mul HP := ⟨HP.sep⟩
def emp : HP := fun h => h = fun _ => none
def pts (b : Nat) (o : Obj) : HP := fun h => h = fun k => if k = b then some o else none
def pur (φ : Prop) : HP := fun h => φ ∧ h = fun _ => none
def exi {α : Type} (P : α → HP) : HP := fun h => ∃ x, P x h

theorem disj_comm {a b : Part} (h : disj a b) : disj b a := fun k => (h k).symm
theorem uni_comm {a b : Part} (h : disj a b) : uni a b = uni b a := by
  funext k
  simp only [uni]
  rcases h k with e | e <;> rw [e] <;> simp
theorem sep_def (P Q : HP) (h : Part) : (P * Q) h ↔ ∃ a b, disj a b ∧ h = uni a b ∧ P a ∧ Q b := Iff.rfl
theorem sep_comm (P Q : HP) : P * Q = Q * P := by
  funext h
  apply propext
  constructor <;> (rintro ⟨a, b, d, rfl, p, q⟩; exact ⟨b, a, disj_comm d, uni_comm d, q, p⟩)
theorem sep_assoc (P Q R : HP) : P * Q * R = P * (Q * R) := by
  funext h
  apply propext
  constructor
  · rintro ⟨ab, c, d, rfl, ⟨a, b, d', rfl, p, q⟩, r⟩
    refine ⟨a, uni b c, ?_, ?_, p, b, c, ?_, rfl, q, r⟩
    · intro k
      rcases d' k with e | e
      · exact .inl e
      · rcases d k with f | f
        · simp only [uni] at f
          cases ha : a k with
          | none => exact .inl rfl
          | some x => rw [ha] at f; simp at f
        · simp only [uni]; right; rw [e, f]; rfl
    · funext k; simp only [uni]; cases a k <;> rfl
    · intro k
      rcases d k with f | f
      · simp only [uni] at f
        cases ha : a k with
        | none => rw [ha] at f; exact .inl (by simpa using f)
        | some x => rw [ha] at f; simp at f
      · exact .inr f
  · rintro ⟨a, bc, d, rfl, p, b, c, d', rfl, q, r⟩
    refine ⟨uni a b, c, ?_, ?_, ⟨a, b, ?_, rfl, p, q⟩, r⟩
    · intro k
      rcases d k with e | e
      · rcases d' k with f | f
        · left; simp only [uni]; rw [e, f]; rfl
        · exact .inr f
      · simp only [uni] at e
        cases hb : b k with
        | none => rw [hb] at e; right; simpa using e
        | some x => rw [hb] at e; simp at e
    · funext k; simp only [uni]; cases a k <;> rfl
    · intro k
      rcases d k with e | e
      · exact .inl e
      · simp only [uni] at e
        cases hb : b k with
        | none => exact .inr rfl
        | some x => rw [hb] at e; simp at e
instance : Std.Commutative (α := HP) (· * ·) := ⟨sep_comm⟩
instance : Std.Associative (α := HP) (· * ·) := ⟨sep_assoc⟩
theorem sep_left_comm (P Q R : HP) : P * (Q * R) = Q * (P * R) := by rw [← sep_assoc, sep_comm P Q, sep_assoc]
theorem emp_sep (P : HP) : emp * P = P := by
  funext h
  apply propext
  constructor
  · rintro ⟨a, b, _, rfl, e, p⟩
    have : uni a b = b := by funext k; simp only [uni]; rw [show a = fun _ => none from e]; rfl
    rw [this]; exact p
  · intro p
    exact ⟨fun _ => none, h, fun _ => .inl rfl, by funext k; simp [uni], rfl, p⟩
theorem sep_emp (P : HP) : P * emp = P := by rw [sep_comm, emp_sep]
theorem pur_sep (φ : Prop) (P : HP) (h : Part) : (pur φ * P) h ↔ φ ∧ P h := by
  constructor
  · rintro ⟨a, b, _, rfl, ⟨x, e⟩, p⟩
    have : uni a b = b := by funext k; simp only [uni]; rw [e]; rfl
    rw [this]; exact ⟨x, p⟩
  · rintro ⟨x, p⟩
    exact ⟨fun _ => none, h, fun _ => .inl rfl, by funext k; simp [uni], ⟨x, rfl⟩, p⟩
theorem exi_sep {α : Type} (P : α → HP) (Q : HP) : exi P * Q = exi fun x => P x * Q := by
  funext h
  apply propext
  constructor
  · rintro ⟨a, b, d, e, ⟨x, p⟩, q⟩; exact ⟨x, a, b, d, e, p, q⟩
  · rintro ⟨x, a, b, d, e, p, q⟩; exact ⟨a, b, d, e, ⟨x, p⟩, q⟩

/-! ### a state: what is owned from B on, and that all below B is as it was -/
structure St (B : Nat) (w0 w : World) (H : HP) : Prop where
  below : Below B w0 w
  base : B ≤ w.heap.size
  own : ∃ h : Part, (∀ k o, h k = some o → B ≤ k ∧ w.heap[k]? = some o) ∧ H h

section
variable {B : Nat} {w0 w w' : World} {P Q R H : HP}
theorem St.init (w : World) : St w.heap.size w w emp := ⟨Below.refl _ _, Nat.le_refl _, fun _ => none, by simp, rfl⟩
theorem St.weak (hPQ : ∀ h, P h → Q h) (s : St B w0 w P) : St B w0 w Q :=
  let ⟨h, a, b⟩ := s.own; ⟨s.below, s.base, h, a, hPQ h b⟩
theorem St.eq (e : P = Q) (s : St B w0 w P) : St B w0 w Q := e ▸ s
theorem St.left (s : St B w0 w (P * Q)) : St B w0 w P := by
  obtain ⟨h, a, x, y, d, rfl, p, q⟩ := s.own
  exact ⟨s.below, s.base, x, fun k o e => a k o (by simp only [uni]; rw [e]; rfl), p⟩
theorem St.right (s : St B w0 w (P * Q)) : St B w0 w Q := (s.eq (sep_comm P Q)).left
theorem St.ex {α : Type} {P : α → HP} : St B w0 w (exi P * R) ↔ ∃ x, St B w0 w (P x * R) := by
  rw [exi_sep]
  constructor
  · rintro ⟨b, z, h, a, x, p⟩; exact ⟨x, b, z, h, a, p⟩
  · rintro ⟨x, b, z, h, a, p⟩; exact ⟨b, z, h, a, x, p⟩
theorem St.pu {φ : Prop} : St B w0 w (pur φ * R) ↔ φ ∧ St B w0 w R := by
  constructor
  · rintro ⟨b, z, h, a, p⟩; rw [pur_sep] at p; exact ⟨p.1, b, z, h, a, p.2⟩
  · rintro ⟨x, b, z, h, a, p⟩; exact ⟨b, z, h, a, (pur_sep _ _ _).2 ⟨x, p⟩⟩
theorem St.addEmp (s : St B w0 w R) : St B w0 w (emp * R) := s.eq (emp_sep R).symm
theorem St.dropEmp (s : St B w0 w (emp * R)) : St B w0 w R := s.eq (emp_sep R)
theorem St.block {b : Nat} {o : Obj} (s : St B w0 w (pts b o * R)) : w.heap[b]? = some o := by
  obtain ⟨h, a, p⟩ := s.left.own
  refine (a b o ?_).2
  rw [show h = _ from p]; simp
theorem St.lo {b : Nat} {o : Obj} (s : St B w0 w (pts b o * R)) : B ≤ b := by
  obtain ⟨h, a, p⟩ := s.left.own
  refine (a b o ?_).1
  rw [show h = _ from p]; simp
theorem St.hi {b : Nat} {o : Obj} (s : St B w0 w (pts b o * R)) : b < w.heap.size := (Array.getElem?_eq_some_iff.1 s.block).1
theorem St.cell {b : Nat} {c : Array Value} {t : TypeId} {f : Nat × Nat} (s : St B w0 w (pts b (.cells c t f) * R)) (i : Nat) : w.cell? ⟨b, i, none⟩ = c[i]? := by
  simp [World.cell?, s.block]
theorem St.free {b : Nat} {c : Array Value} {t : TypeId} (s : St B w0 w (pts b (.cells c t (0, 0)) * R)) (i : Nat) : w.frozen? ⟨b, i, none⟩ = false := by
  simp [World.frozen?, s.block]
theorem St.ne {b c : Nat} {o p : Obj} (s : St B w0 w (pts b o * (pts c p * R))) : b ≠ c := by
  rintro rfl
  rw [← sep_assoc] at s
  obtain ⟨h, a, x, y, d, rfl, p, q⟩ := s.left.own
  have e := d b
  rw [show x = _ from p, show y = _ from q] at e
  simp at e
/-- A world in which no block of the old one has turned. -/
theorem St.keep (s : St B w0 w R) (hb : Below w.heap.size w w') : St B w0 w' R := by
  obtain ⟨h, a, p⟩ := s.own
  refine ⟨s.below.trans (hb.mono s.base), Nat.le_trans s.base hb.size, h, fun k o e => ?_, p⟩
  have q := a k o e
  refine ⟨q.1, ?_⟩
  rw [hb.block k (Array.getElem?_eq_some_iff.1 q.2).1]
  exact q.2
theorem St.drew (s : St B w0 w R) : St B w0 w.drew R := s.keep ((Below.refl _ _).drew)
/-- What a callee made of its own, beside what was there. -/
theorem St.join (s : St B w0 w R) (t : St w.heap.size w w' Q) : St B w0 w' (Q * R) := by
  obtain ⟨h, a, p⟩ := (s.keep t.below).own
  obtain ⟨g, c, q⟩ := t.own
  obtain ⟨h', a', p'⟩ := s.own
  refine ⟨(s.keep t.below).below, (s.keep t.below).base, uni g h', ?_, g, h', ?_, rfl, q, p'⟩
  · intro k o e
    simp only [uni] at e
    cases hg : g k with
    | some u => rw [hg] at e; simp at e; subst e; exact ⟨Nat.le_trans s.base (c k u hg).1, (c k u hg).2⟩
    | none =>
      rw [hg] at e
      simp at e
      have z := a' k o e
      exact ⟨z.1, by rw [t.below.block k (Array.getElem?_eq_some_iff.1 z.2).1]; exact z.2⟩
  · intro k
    cases hg : g k with
    | none => exact .inl rfl
    | some u =>
      right
      cases hh : h' k with
      | none => rfl
      | some v =>
        have z := (Array.getElem?_eq_some_iff.1 (a' k v hh).2).1
        have z2 := (c k u hg).1
        omega
theorem below_alloc' (w : World) (o : Obj) : Below w.heap.size w (w.alloc o) := (Below.refl _ _).alloc (Nat.le_refl _) o
theorem St.alloc (s : St B w0 w R) (o : Obj) : St B w0 (w.alloc o) (pts w.heap.size o * R) := by
  refine s.join ⟨below_alloc' w o, by simp, _, ?_, rfl⟩
  intro k o' e
  split at e
  · rename_i hk; subst hk; cases e; exact ⟨Nat.le_refl _, heap_alloc_new w o⟩
  · cases e
/-- One owned block has turned, and no other. -/
theorem St.turn {b : Nat} {o o' : Obj} (s : St B w0 w (pts b o * R)) (ho : w'.os = w.os) (ht : w'.tape = w.tape) (hu : w'.output = w.output) (hz : w'.heap.size = w.heap.size)
    (hk : ∀ k, k ≠ b → w'.heap[k]? = w.heap[k]?) (hb : w'.heap[b]? = some o') : St B w0 w' (pts b o' * R) := by
  have hlo := s.lo
  refine ⟨⟨ho.trans s.below.os, ht.trans s.below.tape, hu.trans s.below.output, by rw [hz]; exact s.below.size, fun k hlt => (hk k (by omega)).trans (s.below.block k hlt)⟩, by rw [hz]; exact s.base, ?_⟩
  obtain ⟨h, a, x, y, d, rfl, p, q⟩ := s.own
  have hx : x = fun k => if k = b then some o else none := p
  subst hx
  refine ⟨uni (fun k => if k = b then some o' else none) y, ?_, _, y, ?_, rfl, rfl, q⟩
  · intro k u e
    simp only [uni] at e
    by_cases hkb : k = b
    · subst hkb; simp at e; subst e; exact ⟨hlo, hb⟩
    · simp [hkb] at e
      have z := a k u (by simp only [uni]; simp [hkb, e])
      exact ⟨z.1, by rw [hk k hkb]; exact z.2⟩
  · intro k
    have := d k
    by_cases hkb : k = b
    · subst hkb; simp at this; exact .inr this
    · left; simp [hkb]
theorem setCell_block (w : World) (b i : Nat) (c : Array Value) (t : TypeId) (f : Nat × Nat) (v : Value) (h : w.heap[b]? = some (.cells c t f)) :
    (w.setCell ⟨b, i, none⟩ v).heap[b]? = some (.cells (c.setIfInBounds i v) t f) := by
  simp [World.setCell, Array.getElem?_modify, h]
theorem St.set {b : Nat} {c : Array Value} {t : TypeId} {f : Nat × Nat} (s : St B w0 w (pts b (.cells c t f) * R)) (i : Nat) (v : Value) :
    St B w0 (w.setCell ⟨b, i, none⟩ v) (pts b (.cells (c.setIfInBounds i v) t f) * R) :=
  s.turn rfl rfl rfl (by simp) (fun k hk => Below.heap_setCell _ _ _ _ (by simpa using hk)) (setCell_block _ _ _ _ _ _ _ s.block)
theorem St.setRow {b : Nat} {c : Array Value} {t : TypeId} {f : Nat × Nat} (s : St B w0 w (pts b (.cells c t f) * R)) (cs : Array Value) :
    St B w0 (w.setRow b cs) (pts b (.cells cs t f) * R) :=
  s.turn rfl rfl rfl (by simp) (fun k hk => setRow_other _ _ _ _ hk) (setRow_heap _ _ _ _ _ _ s.block)
end

/-! ### rows: a slice value that is the call's own -/
/-- A slice of n elements (size cells each) at the head of a block of its own, or nil. -/
def row (e : TypeId) (size : Nat) (v : Value) (n : Nat) (xs : List Value) : HP := fun h =>
  xs.length = n * size ∧
  ((v = .slice none 0 0 ∧ n = 0 ∧ h = fun _ => none) ∨
   ∃ g cap cur, v = .slice (some ⟨g, 0, none⟩) n cap ∧ n ≤ cap ∧ cap ≤ maxLen ∧ cap * size ≤ cur.size ∧ cur.toList.take (n * size) = xs ∧ pts g (.cells cur e (0, 0)) h)
section
variable {B : Nat} {w0 w w' : World} {R : HP} {e : TypeId} {size : Nat} {v : Value} {n : Nat} {xs : List Value}
theorem St.rowOpen (s : St B w0 w (row e size v n xs * R)) : xs.length = n * size ∧
    ((v = .slice none 0 0 ∧ n = 0 ∧ St B w0 w R) ∨
     ∃ g cap cur, v = .slice (some ⟨g, 0, none⟩) n cap ∧ n ≤ cap ∧ cap ≤ maxLen ∧ cap * size ≤ cur.size ∧ cur.toList.take (n * size) = xs ∧ St B w0 w (pts g (.cells cur e (0, 0)) * R)) := by
  obtain ⟨h, a, x, y, d, rfl, ⟨hl, p⟩, q⟩ := s.own
  refine ⟨hl, ?_⟩
  rcases p with ⟨rfl, rfl, p⟩ | ⟨g, cap, cur, rfl, h1, h2, h3, h4, p⟩
  · refine .inl ⟨rfl, rfl, ?_⟩
    exact s.right
  · exact .inr ⟨g, cap, cur, rfl, h1, h2, h3, h4, s.below, s.base, _, a, x, y, d, rfl, p, q⟩
theorem St.rowNil (s : St B w0 w R) (e : TypeId) (size : Nat) : St B w0 w (row e size (.slice none 0 0) 0 [] * R) := by
  obtain ⟨h, a, p⟩ := s.own
  exact ⟨s.below, s.base, h, a, fun _ => none, h, fun _ => .inl rfl, by funext k; simp [uni], ⟨by simp, .inl ⟨rfl, rfl, rfl⟩⟩, p⟩
theorem St.rowMk {g cap : Nat} {cur : Array Value} (s : St B w0 w (pts g (.cells cur e (0, 0)) * R)) (h1 : n ≤ cap) (h2 : cap ≤ maxLen) (h3 : cap * size ≤ cur.size)
    (h4 : cur.toList.take (n * size) = xs) : St B w0 w (row e size (.slice (some ⟨g, 0, none⟩) n cap) n xs * R) := by
  obtain ⟨h, a, x, y, d, rfl, p, q⟩ := s.own
  refine ⟨s.below, s.base, _, a, x, y, d, rfl, ⟨?_, .inr ⟨g, cap, cur, rfl, h1, h2, h3, h4, p⟩⟩, q⟩
  rw [← h4, List.length_take, Array.length_toList, Nat.min_eq_left (Nat.le_trans (Nat.mul_le_mul_right _ h1) h3)]
end

/-! ### what can be read -/
/-- The cells from the address on are these. -/
def Rd (w : World) (a : Option Addr) (xs : List Value) : Prop :=
  xs = [] ∨ ∃ b off, a = some ⟨b, off, none⟩ ∧ ∀ j u, xs[j]? = some u → w.cell? ⟨b, off + j, none⟩ = some u
theorem Rd.nil (w : World) (a : Option Addr) : Rd w a [] := .inl rfl
theorem Rd.at {w : World} {a : Option Addr} {xs : List Value} (h : Rd w a xs) (hx : xs ≠ []) : ∃ b off, a = some ⟨b, off, none⟩ ∧ ∀ j u, xs[j]? = some u → w.cell? ⟨b, off + j, none⟩ = some u :=
  h.resolve_left hx
theorem Rd.lt {w : World} {a : Option Addr} {xs : List Value} {b off : Nat} (h : Rd w a xs) (hx : xs ≠ []) (ha : a = some ⟨b, off, none⟩) : b < w.heap.size := by
  obtain ⟨b', off', rfl, hc⟩ := h.at hx
  cases ha
  obtain ⟨u, l, rfl⟩ : ∃ u l, xs = u :: l := by cases xs with | nil => exact absurd rfl hx | cons u l => exact ⟨u, l, rfl⟩
  exact World.block_lt_of_cell? w ⟨b, off + 0, none⟩ (hc 0 u rfl)
theorem Rd.mono {w w' : World} {a : Option Addr} {xs : List Value} (h : Rd w a xs) (hb : ∀ b off, a = some ⟨b, off, none⟩ → b < w.heap.size → w'.heap[b]? = w.heap[b]?) : Rd w' a xs := by
  by_cases hx : xs = []
  · exact .inl hx
  · have hlt := fun b off e => h.lt (b := b) (off := off) hx e
    obtain ⟨b, off, rfl, hc⟩ := h.at hx
    refine .inr ⟨b, off, rfl, fun j u e => ?_⟩
    rw [World.cell?_of_block (w := w) (hb b off rfl (hlt b off rfl))]
    exact hc j u e
theorem Rd.below {w w' : World} {a : Option Addr} {xs : List Value} (h : Rd w a xs) (hb : Below w.heap.size w w') : Rd w' a xs :=
  h.mono fun _ _ _ hlt => hb.block _ hlt
/-- An argument's cells, read later. -/
theorem Rd.st {B : Nat} {w0 w : World} {H : HP} {a : Option Addr} {xs : List Value} (h : Rd w0 a xs) (hB : B = w0.heap.size) (s : St B w0 w H) : Rd w a xs :=
  h.mono fun _ _ _ hlt => s.below.block _ (by omega)
theorem Rd.sub {w : World} {a : Option Addr} {xs : List Value} (h : Rd w a xs) (i n : Nat) (a' : Option Addr) (ha : (xs.drop i).take n ≠ [] → a' = a.map (·.add i)) : Rd w a' ((xs.drop i).take n) := by
  by_cases hx : (xs.drop i).take n = []
  · exact .inl hx
  · have hne : xs ≠ [] := by rintro rfl; simp at hx
    obtain ⟨b, off, rfl, hc⟩ := h.at hne
    refine .inr ⟨b, off + i, ?_, fun j u e => ?_⟩
    · rw [ha hx]; simp [Addr.add_lit]
    · rw [List.getElem?_take] at e
      split at e
      · rw [List.getElem?_drop] at e
        have := hc (i + j) u e
        rw [Nat.add_assoc]; exact this
      · cases e
theorem St.rd {B : Nat} {w0 w : World} {R : HP} {b : Nat} {c : Array Value} {t : TypeId} {f : Nat × Nat} (s : St B w0 w (pts b (.cells c t f) * R)) (off n : Nat) :
    Rd w (some ⟨b, off, none⟩) ((c.toList.drop off).take n) := by
  refine .inr ⟨b, off, rfl, fun j u e => ?_⟩
  rw [s.cell, List.getElem?_take] at *
  split at e
  · rw [List.getElem?_drop] at e; simpa using e
  · cases e
theorem St.rowRd {B : Nat} {w0 w : World} {R : HP} {e : TypeId} {size : Nat} {a : Option Addr} {n c : Nat} {xs : List Value} (s : St B w0 w (row e size (.slice a n c) n xs * R)) : Rd w a xs := by
  obtain ⟨hl, h⟩ := s.rowOpen
  rcases h with ⟨_, rfl, _⟩ | ⟨g, cap, cur, hv, _, _, _, h4, t⟩
  · exact .inl (by simpa using hl)
  · cases hv
    have := t.rd 0 (n * size)
    simpa [h4] using this

/-! ### the slice types' rows of the table -/
structure SlT (P : Program) (t e : TypeId) (size bytes : Nat) (z : Value) : Prop where
  und : P.underlying t = some (.slice e)
  info : ∃ i, P.info? e = some i ∧ i.zero = some z ∧ i.size = size ∧ i.bytes = bytes
  zs : z.cells.size = size
  pos : 0 < size

/-! ### append, make, copy -/
section
variable {P : Program} {B : Nat} {w0 w : World} {R : HP} {t e : TypeId} {size bytes : Nat} {z : Value} {v : Value} {n : Nat} {xs : List Value}
theorem run_append_st (T : SlT P t e size bytes z) (ty : TypeId) (s : St B w0 w (row e size v n xs * R)) (ax : Option Addr) (m c : Nat) (news : List Value) (hr : Rd w ax news) (hnone : ax = none → c = 0)
    (hl : news.length = m * size) (h1 : ∀ u ∈ news, u.oneCell' = true) (h63 : n + m ≤ maxLen) (hbytes : (n + m) * bytes ≤ 140737488355328) :
    ∃ v' w', (Builtin.append_ #[t, t] ty #[v, .slice ax m c]).run P w = .ok v' w' ∧ St B w0 w' (row e size v' (n + m) (xs ++ news) * R) ∧ (v' = .slice none 0 0 ↔ v = .slice none 0 0 ∧ m = 0) := by
  obtain ⟨ht, ⟨i, hi, hz, hsz, hby⟩, hzs, hpos⟩ := T
  subst hsz
  subst hby
  obtain ⟨hxs, so⟩ := s.rowOpen
  have hsmall : n + m ≤ 9223372036854775807 := by simp only [maxLen] at h63; omega
  have hlen : (xs ++ news).length = (n + m) * i.size := by rw [List.length_append, hxs, hl, Nat.add_mul]
  by_cases hm : m = 0
  · subst hm
    have hn : news = [] := List.eq_nil_of_length_eq_zero (by simpa using hl)
    subst hn
    refine ⟨v, w, ?_, by simpa using s, by simp⟩
    have hf : ∀ (ax : Option Addr), (Builtin.firstCells i.size 0 (.slice ax 0 c)).run P w = .ok #[] w := by
      intro ax; cases ax with
      | none => simp [Builtin.firstCells]
      | some a => simpa using run_firstCells_some (P := P) w i.size 0 a 0 c [] (by simp) (by simp)
    rcases so with ⟨rfl, rfl, _⟩ | ⟨g, cap, cur, rfl, hnc, _⟩
    · simp [Builtin.append_, run_underlying ht, sizeOf, typeInfo, hi, Builtin.lenOf, hf]
    · simp [Builtin.append_, run_underlying ht, sizeOf, typeInfo, hi, Builtin.lenOf, hf, hnc, storeCells]
  · have hnn : news ≠ [] := by
      intro h
      have := Nat.mul_pos (show 0 < m by omega) hpos
      rw [h, List.length_nil] at hl
      omega
    obtain ⟨b, off, rfl, hc⟩ := hr.at hnn
    have hnews : ∀ j u, news[j]? = some u → w.cell? ((⟨b, off, none⟩ : Addr).add j) = some u := fun j u hj => by rw [Addr.add_lit]; exact hc j u hj
    have grown : ∀ (old : Nat), old < n + m → ∀ R', St B w0 w R' → St B w0 (w.drew.alloc (.cells (xs.toArray ++ news.toArray ++ Builtin.zeroCells z.cells (grownCap w (n + m) old e - (n + m))) e))
        (row e i.size (.slice (some ⟨w.heap.size, 0, none⟩) (n + m) (grownCap w (n + m) old e)) (n + m) (xs ++ news) * R') := by
      intro old ho R' sR
      have hge := grownCap_ge w (n + m) old e
      have hcm : grownCap w (n + m) old e ≤ maxLen := grownCap_le_maxLen w (n + m) old e h63
      have q := sR.drew.alloc (.cells (xs.toArray ++ news.toArray ++ Builtin.zeroCells z.cells (grownCap w (n + m) old e - (n + m))) e)
      refine q.rowMk hge hcm ?_ ?_
      · refine Nat.le_of_eq ?_
        simp only [Array.size_append, List.size_toArray, size_zeroCells, hzs, hxs, hl, ← Nat.add_mul]
        congr 1
        omega
      · simp only [Array.toList_append, List.append_assoc]
        rw [← List.append_assoc, ← hlen]
        exact List.take_left
    rcases so with ⟨rfl, rfl, sR⟩ | ⟨g, cap, cur, rfl, hnc, hcm, hcs, htake, sp⟩
    · have hx : xs = [] := List.eq_nil_of_length_eq_zero (by simpa using hxs)
      subst hx
      have hrr := run_append_nil (P := P) w t ty e i z ht hi hz _ m c news hl hnews (by omega) (by omega) (by have hb := hbytes; simp only [Nat.zero_add] at hb; omega)
      have hgr := grown 0 (by omega) R sR
      simp only [Nat.zero_add, List.nil_append, Array.empty_append] at hgr ⊢
      exact ⟨_, _, hrr, hgr, by simp [hm]⟩
    · by_cases hroom : n + m ≤ cap
      · have hfit : n * i.size + news.length ≤ cur.size := by rw [hl, ← Nat.add_mul]; exact Nat.le_trans (Nat.mul_le_mul_right _ hroom) hcs
        have hrr := run_append_room (P := P) w t ty e i ht hi g n cap cur sp.block _ m c news hl hnews h1 hroom hfit
        refine ⟨_, _, hrr, (sp.setRow _).rowMk hroom hcm ?_ ?_, by simp⟩
        · simp only [List.size_toArray, List.length_append, List.length_take, List.length_drop, Array.length_toList]
          omega
        · rw [htake, ← hlen]
          exact List.take_left
      · have holds : ∀ j u, xs[j]? = some u → w.cell? ((⟨g, 0, none⟩ : Addr).add j) = some u := by
          intro j u hj
          rw [Addr.add_lit, sp.cell, ← htake, List.getElem?_take] at *
          split at hj
          · simpa using hj
          · cases hj
        have hrr := run_append_grow (P := P) w t ty e i z ht hi hz ⟨g, 0, none⟩ n cap xs hxs holds _ m c news hl hnews (by omega) (by omega) (growslice_fits (by omega) hbytes)
        exact ⟨_, _, hrr, grown cap (by omega) R sp.right, by simp [hm]⟩
variable {ops : Array Oper} {rest : List Oper} {o : Oper} {a : Act} {Q : Exit → Act → World → Prop}
/-- append(s, x...) on a row of the call's own. -/
theorem wpl_append (hg : o.guard = none) (so xo : Operand) (hop : o.op = .call { callee := .builtin .append, args := #[so, xo], argTypes := #[t, t] })
    (T : SlT P t e size bytes z) (s : St B w0 w (row e size v n xs * R)) (ax : Option Addr) (m c : Nat) (news : List Value) (hs : a.eval so = v) (hx : a.eval xo = .slice ax m c)
    (hr : Rd w ax news) (hnone : ax = none → c = 0) (hl : news.length = m * size) (h1 : ∀ u ∈ news, u.oneCell' = true) (h63 : n + m ≤ maxLen) (hbytes : (n + m) * bytes ≤ 140737488355328)
    (hK : ∀ v' w', St B w0 w' (row e size v' (n + m) (xs ++ news) * R) → (v' = .slice none 0 0 ↔ v = .slice none 0 0 ∧ m = 0) → wpList P ops Q rest (a.put o.dst v') w') :
    wpList P ops Q (o :: rest) a w := by
  refine wpList_plain hg fun K hK' => ?_
  obtain ⟨v', w', hrun, r1, r2⟩ := run_append_st (P := P) T o.type s ax m c news hr hnone hl h1 h63 hbytes
  unfold Oper.wp
  simp [execOp, hop, resolve, invoke, builtin, hs, hx, hrun, Result.andThen]
  exact hK' _ _ (hK v' w' r1 r2)
theorem run_makeSlice_st (T : SlT P t e size bytes z) (kl kc : IntKind) (l c : Nat) (hlc : l ≤ c) (h63 : c ≤ maxLen) (hb : bytes * c ≤ 281474976710656) (s : St B w0 w R) :
    (Instr.makeSlice t (.int kl l) (.int kc c)).run P w = .ok (.slice (some ⟨w.heap.size, 0, none⟩) l c) (w.alloc (.cells (madeCells z.cells (c * size)) e)) ∧
      St B w0 (w.alloc (.cells (madeCells z.cells (c * size)) e)) (pts w.heap.size (.cells (madeCells z.cells (c * size)) e (0, 0)) * R) := by
  obtain ⟨ht, ⟨i, hi, hz, hsz, hby⟩, hzs, hpos⟩ := T
  subst hsz
  subst hby
  refine ⟨?_, s.alloc _⟩
  have := run_make (P := P) w t e i z ht hi hz kl kc l c (by omega) (by omega) (by rw [← Int.natCast_mul]; exact Int.ofNat_le.2 hb) (by unfold maxLen at h63; omega)
  simpa using this
/-- make([]T, l, c): the new block is known whole. -/
theorem wpl_make (hg : o.guard = none) (lo co : Operand) (hop : o.op = Op.makeSlice t lo co) (T : SlT P t e size bytes z) (s : St B w0 w R) (kl kc : IntKind) (l c : Nat)
    (hl : a.eval lo = .int kl l) (hc : a.eval co = .int kc c) (hlc : l ≤ c) (h63 : c ≤ maxLen) (hb : bytes * c ≤ 281474976710656)
    (hK : ∀ g w', St B w0 w' (pts g (.cells (madeCells z.cells (c * size)) e (0, 0)) * R) → wpList P ops Q rest (a.put o.dst (.slice (some ⟨g, 0, none⟩) l c)) w') :
    wpList P ops Q (o :: rest) a w := by
  refine wpList_plain hg fun K hK' => ?_
  obtain ⟨hrun, r⟩ := run_makeSlice_st (P := P) T kl kc l c hlc h63 hb s
  unfold Oper.wp
  simp [execOp, hop, hl, hc, hrun, Result.andThen]
  exact hK' _ _ (hK _ _ r)
end
theorem madeCells_one (z : Value) (n : Nat) : madeCells #[z] n = (List.replicate n z).toArray := by
  apply Array.ext'
  rw [toList_madeCells_one]

/-! ### bytes -/
/-- A byte's value. -/
abbrev bv (c : UInt8) : Value := .int .u8 (c.toNat : Int)
abbrev bvs (l : List UInt8) : List Value := l.map bv
theorem bvs_one (l : List UInt8) : ∀ u ∈ bvs l, u.oneCell' = true := by
  intro u hu
  obtain ⟨c, _, rfl⟩ := List.mem_map.1 hu
  rfl
theorem bvs_get {l : List UInt8} {k : Nat} (h : k < l.length) : (bvs l)[k]? = some (bv l[k]) := by simp [List.getElem?_eq_getElem h]
/-- A slice of bytes that reads as these. -/
def BS (w : World) (v : Value) (bs : List UInt8) : Prop :=
  ∃ a c, v = .slice a bs.length c ∧ bs.length ≤ c ∧ c ≤ maxLen ∧ (a = none → c = 0) ∧ Rd w a (bvs bs)
theorem BS.below {w w' : World} {v : Value} {bs : List UInt8} (h : BS w v bs) (hb : Below w.heap.size w w') : BS w' v bs := by
  obtain ⟨a, c, h1, h2, h3, h4, h5⟩ := h
  exact ⟨a, c, h1, h2, h3, h4, h5.below hb⟩
theorem BS.st {B : Nat} {w0 w : World} {H : HP} {v : Value} {bs : List UInt8} (h : BS w0 v bs) (hB : B = w0.heap.size) (s : St B w0 w H) : BS w v bs := by
  obtain ⟨a, c, h1, h2, h3, h4, h5⟩ := h
  exact ⟨a, c, h1, h2, h3, h4, h5.st hB s⟩
theorem BS.nil (w : World) : BS w (.slice none 0 0) [] := ⟨none, 0, rfl, by simp, by simp, fun _ => rfl, .nil _ _⟩

theorem Rd.new (w : World) (xs : Array Value) (t : TypeId) : Rd (w.alloc (.cells xs t)) (some ⟨w.heap.size, 0, none⟩) xs.toList := by
  refine .inr ⟨_, _, rfl, fun j u h => ?_⟩
  rw [World.cell?_alloc_new]
  simpa using h
theorem BS.alloc {w : World} {v : Value} {bs : List UInt8} (h : BS w v bs) (o : Obj) : BS (w.alloc o) v bs := h.below (below_alloc' w o)
theorem BS.drew {w : World} {v : Value} {bs : List UInt8} (h : BS w v bs) : BS w.drew v bs := h.below ((Below.refl _ _).drew)
theorem Rd.alloc {w : World} {a : Option Addr} {xs : List Value} (h : Rd w a xs) (o : Obj) : Rd (w.alloc o) a xs := h.below (below_alloc' w o)
theorem BS.rd {w : World} {a : Option Addr} {n c : Nat} {bs : List UInt8} (h : BS w (.slice a n c) bs) : n = bs.length ∧ bs.length ≤ c ∧ c ≤ maxLen ∧ (a = none → c = 0) ∧ Rd w a (bvs bs) := by
  obtain ⟨a', c', e, h2, h3, h4, h5⟩ := h
  cases e
  exact ⟨rfl, h2, h3, h4, h5⟩
/-- A text of these bytes. -/
abbrev str (l : List UInt8) : Value := .string ⟨l.toArray⟩

/-- A block that was just laid, of these bytes. -/
theorem BS.lit (w : World) (l : List UInt8) (t : TypeId) (f : Nat × Nat) (h : l.length ≤ maxLen) : BS (w.alloc (.cells (bvs l).toArray t f)) (.slice (some ⟨w.heap.size, 0, none⟩) l.length l.length) l := by
  refine ⟨_, _, rfl, Nat.le_refl _, h, (fun e => by cases e), .inr ⟨_, _, rfl, fun j u hj => ?_⟩⟩
  have : (w.alloc (.cells (bvs l).toArray t f)).heap[w.heap.size]? = some (.cells (bvs l).toArray t f) := heap_alloc_new w _
  simp only [World.cell?, this]
  simpa using hj

/-! ### masks -/
theorem and_m1 (n : Int) : bits .and .i64 n 1 = n % 2 := by
  have h1 : (BitVec.ofInt 64 1).toNat = 2 ^ 1 - 1 := by decide
  have key : (BitVec.ofInt 64 n &&& BitVec.ofInt 64 1).toNat = (n % ((2 ^ 64 : Nat) : Int)).toNat % 2 ^ 1 := by
    rw [BitVec.toNat_and, BitVec.toNat_ofInt, h1, Nat.and_two_pow_sub_one_eq_mod]
  show IntKind.i64.wrap ((BitVec.ofInt 64 n &&& BitVec.ofInt 64 1).toNat : Nat) = n % 2
  rw [key, IntKind.wrap_i64]
  omega
theorem and_m2 (n : Int) : bits .and .i64 n 3 = n % 4 := by
  have h1 : (BitVec.ofInt 64 3).toNat = 2 ^ 2 - 1 := by decide
  have key : (BitVec.ofInt 64 n &&& BitVec.ofInt 64 3).toNat = (n % ((2 ^ 64 : Nat) : Int)).toNat % 2 ^ 2 := by
    rw [BitVec.toNat_and, BitVec.toNat_ofInt, h1, Nat.and_two_pow_sub_one_eq_mod]
  show IntKind.i64.wrap ((BitVec.ofInt 64 n &&& BitVec.ofInt 64 3).toNat : Nat) = n % 4
  rw [key, IntKind.wrap_i64]
  omega
theorem and_m3 (n : Int) : bits .and .i64 n 7 = n % 8 := by
  have h1 : (BitVec.ofInt 64 7).toNat = 2 ^ 3 - 1 := by decide
  have key : (BitVec.ofInt 64 n &&& BitVec.ofInt 64 7).toNat = (n % ((2 ^ 64 : Nat) : Int)).toNat % 2 ^ 3 := by
    rw [BitVec.toNat_and, BitVec.toNat_ofInt, h1, Nat.and_two_pow_sub_one_eq_mod]
  show IntKind.i64.wrap ((BitVec.ofInt 64 n &&& BitVec.ofInt 64 7).toNat : Nat) = n % 8
  rw [key, IntKind.wrap_i64]
  omega
theorem and_m4 (n : Int) : bits .and .i64 n 15 = n % 16 := by
  have h1 : (BitVec.ofInt 64 15).toNat = 2 ^ 4 - 1 := by decide
  have key : (BitVec.ofInt 64 n &&& BitVec.ofInt 64 15).toNat = (n % ((2 ^ 64 : Nat) : Int)).toNat % 2 ^ 4 := by
    rw [BitVec.toNat_and, BitVec.toNat_ofInt, h1, Nat.and_two_pow_sub_one_eq_mod]
  show IntKind.i64.wrap ((BitVec.ofInt 64 n &&& BitVec.ofInt 64 15).toNat : Nat) = n % 16
  rw [key, IntKind.wrap_i64]
  omega
theorem and_m5 (n : Int) : bits .and .i64 n 31 = n % 32 := by
  have h1 : (BitVec.ofInt 64 31).toNat = 2 ^ 5 - 1 := by decide
  have key : (BitVec.ofInt 64 n &&& BitVec.ofInt 64 31).toNat = (n % ((2 ^ 64 : Nat) : Int)).toNat % 2 ^ 5 := by
    rw [BitVec.toNat_and, BitVec.toNat_ofInt, h1, Nat.and_two_pow_sub_one_eq_mod]
  show IntKind.i64.wrap ((BitVec.ofInt 64 n &&& BitVec.ofInt 64 31).toNat : Nat) = n % 32
  rw [key, IntKind.wrap_i64]
  omega
theorem and_m6 (n : Int) : bits .and .i64 n 63 = n % 64 := by
  have h1 : (BitVec.ofInt 64 63).toNat = 2 ^ 6 - 1 := by decide
  have key : (BitVec.ofInt 64 n &&& BitVec.ofInt 64 63).toNat = (n % ((2 ^ 64 : Nat) : Int)).toNat % 2 ^ 6 := by
    rw [BitVec.toNat_and, BitVec.toNat_ofInt, h1, Nat.and_two_pow_sub_one_eq_mod]
  show IntKind.i64.wrap ((BitVec.ofInt 64 n &&& BitVec.ofInt 64 63).toNat : Nat) = n % 64
  rw [key, IntKind.wrap_i64]
  omega
theorem and_m7 (n : Int) : bits .and .i64 n 127 = n % 128 := by
  have h1 : (BitVec.ofInt 64 127).toNat = 2 ^ 7 - 1 := by decide
  have key : (BitVec.ofInt 64 n &&& BitVec.ofInt 64 127).toNat = (n % ((2 ^ 64 : Nat) : Int)).toNat % 2 ^ 7 := by
    rw [BitVec.toNat_and, BitVec.toNat_ofInt, h1, Nat.and_two_pow_sub_one_eq_mod]
  show IntKind.i64.wrap ((BitVec.ofInt 64 n &&& BitVec.ofInt 64 127).toNat : Nat) = n % 128
  rw [key, IntKind.wrap_i64]
  omega
theorem and_m8 (n : Int) : bits .and .i64 n 255 = n % 256 := by
  have h1 : (BitVec.ofInt 64 255).toNat = 2 ^ 8 - 1 := by decide
  have key : (BitVec.ofInt 64 n &&& BitVec.ofInt 64 255).toNat = (n % ((2 ^ 64 : Nat) : Int)).toNat % 2 ^ 8 := by
    rw [BitVec.toNat_and, BitVec.toNat_ofInt, h1, Nat.and_two_pow_sub_one_eq_mod]
  show IntKind.i64.wrap ((BitVec.ofInt 64 n &&& BitVec.ofInt 64 255).toNat : Nat) = n % 256
  rw [key, IntKind.wrap_i64]
  omega
theorem and_m10 (n : Int) : bits .and .i64 n 1023 = n % 1024 := by
  have h1 : (BitVec.ofInt 64 1023).toNat = 2 ^ 10 - 1 := by decide
  have key : (BitVec.ofInt 64 n &&& BitVec.ofInt 64 1023).toNat = (n % ((2 ^ 64 : Nat) : Int)).toNat % 2 ^ 10 := by
    rw [BitVec.toNat_and, BitVec.toNat_ofInt, h1, Nat.and_two_pow_sub_one_eq_mod]
  show IntKind.i64.wrap ((BitVec.ofInt 64 n &&& BitVec.ofInt 64 1023).toNat : Nat) = n % 1024
  rw [key, IntKind.wrap_i64]
  omega
theorem and_m11 (n : Int) : bits .and .i64 n 2047 = n % 2048 := by
  have h1 : (BitVec.ofInt 64 2047).toNat = 2 ^ 11 - 1 := by decide
  have key : (BitVec.ofInt 64 n &&& BitVec.ofInt 64 2047).toNat = (n % ((2 ^ 64 : Nat) : Int)).toNat % 2 ^ 11 := by
    rw [BitVec.toNat_and, BitVec.toNat_ofInt, h1, Nat.and_two_pow_sub_one_eq_mod]
  show IntKind.i64.wrap ((BitVec.ofInt 64 n &&& BitVec.ofInt 64 2047).toNat : Nat) = n % 2048
  rw [key, IntKind.wrap_i64]
  omega
theorem and_m16 (n : Int) : bits .and .i64 n 65535 = n % 65536 := by
  have h1 : (BitVec.ofInt 64 65535).toNat = 2 ^ 16 - 1 := by decide
  have key : (BitVec.ofInt 64 n &&& BitVec.ofInt 64 65535).toNat = (n % ((2 ^ 64 : Nat) : Int)).toNat % 2 ^ 16 := by
    rw [BitVec.toNat_and, BitVec.toNat_ofInt, h1, Nat.and_two_pow_sub_one_eq_mod]
  show IntKind.i64.wrap ((BitVec.ofInt 64 n &&& BitVec.ofInt 64 65535).toNat : Nat) = n % 65536
  rw [key, IntKind.wrap_i64]
  omega
theorem and_m24 (n : Int) : bits .and .i64 n 16777215 = n % 16777216 := by
  have h1 : (BitVec.ofInt 64 16777215).toNat = 2 ^ 24 - 1 := by decide
  have key : (BitVec.ofInt 64 n &&& BitVec.ofInt 64 16777215).toNat = (n % ((2 ^ 64 : Nat) : Int)).toNat % 2 ^ 24 := by
    rw [BitVec.toNat_and, BitVec.toNat_ofInt, h1, Nat.and_two_pow_sub_one_eq_mod]
  show IntKind.i64.wrap ((BitVec.ofInt 64 n &&& BitVec.ofInt 64 16777215).toNat : Nat) = n % 16777216
  rw [key, IntKind.wrap_i64]
  omega
theorem and_m32 (n : Int) : bits .and .i64 n 4294967295 = n % 4294967296 := by
  have h1 : (BitVec.ofInt 64 4294967295).toNat = 2 ^ 32 - 1 := by decide
  have key : (BitVec.ofInt 64 n &&& BitVec.ofInt 64 4294967295).toNat = (n % ((2 ^ 64 : Nat) : Int)).toNat % 2 ^ 32 := by
    rw [BitVec.toNat_and, BitVec.toNat_ofInt, h1, Nat.and_two_pow_sub_one_eq_mod]
  show IntKind.i64.wrap ((BitVec.ofInt 64 n &&& BitVec.ofInt 64 4294967295).toNat : Nat) = n % 4294967296
  rw [key, IntKind.wrap_i64]
  omega

theorem St.rowMade {B : Nat} {w0 w : World} {R : HP} {g n c : Nat} {e : TypeId} {z : Value} (hz : z.cells = #[z]) (h1 : n ≤ c) (h2 : c ≤ maxLen)
    (s : St B w0 w (pts g (.cells (madeCells z.cells (c * 1)) e (0, 0)) * R)) : St B w0 w (row e 1 (.slice (some ⟨g, 0, none⟩) n c) n (List.replicate n z) * R) := by
  refine s.rowMk h1 h2 (by simp [size_madeCells]) ?_
  rw [hz, madeCells_one]
  simp [List.take_replicate, Nat.min_eq_left h1]
/-- make([]T, n), elements of one cell: a row of n zeros. -/
theorem wpl_make1 {P : Program} {B : Nat} {w0 w : World} {R : HP} {t e : TypeId} {bytes : Nat} {z : Value} {ops : Array Oper} {rest : List Oper} {o : Oper} {a : Act} {Q : Exit → Act → World → Prop}
    (hg : o.guard = none) (lo co : Operand) (hop : o.op = Op.makeSlice t lo co) (T : SlT P t e 1 bytes z) (hz : z.cells = #[z]) (s : St B w0 w R) (kl kc : IntKind) (n c : Nat)
    (hl : a.eval lo = .int kl n) (hc : a.eval co = .int kc c) (hlc : n ≤ c) (h63 : c ≤ maxLen) (hb : bytes * c ≤ 281474976710656)
    (hK : ∀ g w', St B w0 w' (row e 1 (.slice (some ⟨g, 0, none⟩) n c) n (List.replicate n z) * R) → wpList P ops Q rest (a.put o.dst (.slice (some ⟨g, 0, none⟩) n c)) w') :
    wpList P ops Q (o :: rest) a w :=
  wpl_make hg lo co hop T s kl kc n c hl hc hlc h63 hb fun g w' s' => hK g w' (s'.rowMade hz hlc h63)
theorem bvs_zeros (n : Nat) : List.replicate n (Value.int .u8 0) = bvs (List.replicate n 0) := by simp [bvs]

/-! ### bytes to a text -/
theorem foldl_push (l : List UInt8) : ∀ s : ByteArray, ((l.map fun c => (c.toNat : Int)).foldl (fun r n => r.push (UInt8.ofNat n.toNat)) s) = ⟨s.data ++ l.toArray⟩ := by
  induction l with
  | nil => intro s; simp
  | cons c l ih =>
    intro s
    simp only [List.map_cons, List.foldl_cons]
    rw [ih]
    have e : UInt8.ofNat ((c.toNat : Int)).toNat = c := by simp
    rw [e]
    cases s
    simp [ByteArray.push]
theorem run_str {P : Program} {w : World} {src dst e : TypeId} (hs : P.underlying src = some (.slice e)) (he : P.underlying e = some (.int .u8)) (hd : P.underlying dst = some .string)
    {a : Option Addr} {n c : Nat} {bs : List UInt8} (h : BS w (.slice a n c) bs) : (convert src dst (.slice a n c)).run P w = .ok (str bs) w := by
  obtain ⟨rfl, _, _, hnone, hr⟩ := h.rd
  rw [run_convert_bytes_string w src dst e a _ c hs he hd]
  have e0 : (bvs bs) = (bs.map fun c => (c.toNat : Int)).map (Value.int .u8) := by simp [bvs, bv]
  cases a with
  | none =>
    have hb : bs = [] := by
      rcases hr with h | ⟨_, _, h, _⟩
      · simpa using h
      · cases h
    subst hb
    simp [Conv.bytesToString]
    rfl
  | some ad =>
    have hl : (loadCells ad bs.length).run P w = .ok ((bs.map fun c => (c.toNat : Int)).map (Value.int .u8)).toArray w := by
      rw [← e0]
      have := run_firstCells_some (P := P) w 1 bs.length ad bs.length c (bvs bs) (by simp) (fun j u hj => by
        rcases hr with h | ⟨b, off, h, hc⟩
        · rw [h] at hj; simp at hj
        · cases h; rw [Addr.add_lit]; exact hc j u hj)
      simpa [Builtin.firstCells] using this
    rw [run_bytesToString w ad bs.length c _ hl, foldl_push]
    simp [str]

/-- An owned row of bytes, read. -/
theorem St.rowBS {B : Nat} {w0 w : World} {R : HP} {e : TypeId} {v : Value} {n : Nat} {xs : List Value} (s : St B w0 w (row e 1 v n xs * R)) (l : List UInt8) (hx : xs = bvs l) :
    n = l.length ∧ ∃ a c, v = .slice a l.length c ∧ (a = none ∨ ∃ g, a = some ⟨g, 0, none⟩) ∧ BS w (.slice a l.length c) l := by
  subst hx
  obtain ⟨hl, h⟩ := s.rowOpen
  have hn : n = l.length := by simpa using hl.symm
  subst hn
  refine ⟨rfl, ?_⟩
  rcases h with ⟨rfl, h0, _⟩ | ⟨g, cap, cur, rfl, h1, h2, h3, h4, t⟩
  · have : l = [] := List.eq_nil_of_length_eq_zero h0
    subst this
    exact ⟨none, 0, rfl, .inl rfl, BS.nil w⟩
  · exact ⟨_, _, rfl, .inr ⟨g, rfl⟩, _, _, rfl, h1, h2, (fun e => by cases e), s.rowRd⟩
/-- A slice of slices of bytes. -/
def BSS (w : World) (v : Value) (bss : List (List UInt8)) : Prop :=
  ∃ A c vs, v = .slice A bss.length c ∧ Rd w A vs ∧ bss.length = vs.length ∧ bss.length ≤ c ∧ c ≤ maxLen ∧ (A = none → c = 0) ∧ ∀ i (h : i < bss.length), ∃ u, vs[i]? = some u ∧ BS w u bss[i]
theorem BSS.below {w w' : World} {v : Value} {bss : List (List UInt8)} (h : BSS w v bss) (hb : Below w.heap.size w w') : BSS w' v bss := by
  obtain ⟨A, c, vs, h1, h2, h3, h4, h5, h6, h7⟩ := h
  exact ⟨A, c, vs, h1, h2.below hb, h3, h4, h5, h6, fun i hi => let ⟨u, a, b⟩ := h7 i hi; ⟨u, a, b.below hb⟩⟩

/-! ### an argument of bytes -/
def IsRow (k : IntKind) (w : World) (a : Option Addr) (len cap : Nat) (zs : List Int) : Prop :=
  (a = none ∧ len = 0 ∧ cap = 0 ∧ zs = []) ∨
  ∃ x, a = some x ∧ len ≤ cap ∧ cap ≤ maxLen ∧ zs.length = cap ∧ (∀ i, i < zs.length → w.cell? (x.add i) = some (.int k (zs.getD i 0))) ∧ ∀ n ∈ zs, (Lit.int k n).wf = true
/-- Numbers of a kind that can be read from an address on. -/
theorem Rd.ofRow {k : IntKind} {w : World} {a : Option Addr} {len cap : Nat} {zs : List Int} (h : IsRow k w a len cap zs) : Rd w a ((zs.take len).map (Value.int k)) ∧ (zs.take len).length = len ∧ len ≤ cap ∧ cap ≤ maxLen ∧ (a = none → cap = 0) ∧ ∀ n ∈ zs.take len, (Lit.int k n).wf = true := by
  rcases h with ⟨rfl, rfl, rfl, rfl⟩ | ⟨x, rfl, h1, h2, h3, h4, h5⟩
  · exact ⟨.inl rfl, rfl, Nat.le_refl _, by simp, fun _ => rfl, by simp⟩
  · refine ⟨?_, by simp [h3, h1], h1, h2, (fun e => by cases e), fun n hn => h5 n (List.mem_of_mem_take hn)⟩
    by_cases hl : len = 0
    · subst hl; exact .inl (by simp)
    · have h0 := h4 0 (by omega)
      obtain ⟨b, off, spot⟩ := x
      have hs : spot = none := by
        cases spot with
        | none => rfl
        | some s =>
          simp only [Addr.add, if_pos, World.cell?] at h0
          split at h0 <;> simp at h0
      subst hs
      refine .inr ⟨b, off, rfl, fun j u hj => ?_⟩
      rw [List.getElem?_map, List.getElem?_take] at hj
      split at hj
      · have hlt : j < zs.length := by omega
        have := h4 j hlt
        rw [Addr.add_lit] at this
        rw [this]
        rw [List.getElem?_eq_getElem hlt] at hj
        simp at hj
        simp [List.getD_eq_getElem?_getD, List.getElem?_eq_getElem hlt, hj]
      · cases hj
theorem BS.ofRow {w : World} {a : Option Addr} {len cap : Nat} {zs : List Int} (h : IsRow .u8 w a len cap zs) : ∃ bs : List UInt8, len = bs.length ∧ BS w (.slice a len cap) bs := by
  obtain ⟨h1, h2, h3, h4, h5, h6⟩ := Rd.ofRow h
  have e : (zs.take len).map (Value.int .u8) = bvs ((zs.take len).map fun n => UInt8.ofNat n.toNat) := by
    rw [bvs, List.map_map]
    refine List.map_congr_left fun n hn => ?_
    have := h6 n hn
    have hb : 0 ≤ n ∧ n ≤ 255 := by simpa [Lit.wf, IntKind.min, IntKind.max, IntKind.signed, IntKind.bits] using this
    simp only [Function.comp, bv]
    congr 1
    have : (UInt8.ofNat n.toNat).toNat = n.toNat := by
      rw [UInt8.toNat_ofNat']
      exact Nat.mod_eq_of_lt (by omega)
    rw [this]; omega
  have hl : ((zs.take len).map fun n => UInt8.ofNat n.toNat).length = len := (List.length_map _).trans h2
  refine ⟨(zs.take len).map fun n => UInt8.ofNat n.toNat, hl.symm, a, cap, by rw [hl], by rw [hl]; exact h3, h4, h5, ?_⟩
  rw [← e]; exact h1

/-! ### cuts of slices -/
theorem run_slice_sl {P : Program} {t e : TypeId} {size bytes : Nat} {z : Value} (T : SlT P t e size bytes z) (w : World) (a : Option Addr) (len cap : Nat) (lo hi : Option Value) (l r : Nat)
    (hlo : (lo = none ∧ l = 0) ∨ ∃ k, lo = some (.int k (l : Int))) (hhi : (hi = none ∧ r = len) ∨ ∃ k, hi = some (.int k (r : Int))) (h1 : l ≤ r) (h2 : r ≤ cap) :
    (Instr.sliceAt t (.slice a len cap) lo hi none).run P w = .ok (.slice (if cap = l then a else a.map (·.add (l * size))) (r - l) (cap - l)) w := by
  obtain ⟨ht, ⟨i, hi', hz, hsz, hby⟩, hzs, hpos⟩ := T
  have he : P.elem t = e := by simp [Program.elem, ht]
  have ht' : P.underlying t = some (.slice (P.elem t)) := by rw [he]; exact ht
  have hs : (sizeOf (P.elem t)).run P w = .ok size w := by rw [he]; simp [sizeOf, typeInfo, hi', hsz]
  rw [run_sliceAt_slice w t _ lo hi none ht']
  rcases hlo with ⟨rfl, rfl⟩ | ⟨kl, rfl⟩ <;> rcases hhi with ⟨rfl, rfl⟩ | ⟨kh, rfl⟩
  · rw [run_slice_all w t a r cap ht', hs]; simp [Result.andThen, sliced]
  · rw [run_slice_h w t a len cap ht' kh r (by omega) (by omega), hs]; simp [Result.andThen, sliced]
  · rw [run_slice_l w t a r cap ht' kl l (by omega) (by omega), hs]; simp [Result.andThen, sliced]
  · rw [run_slice_lh w t a len cap ht' kl kh l r (by omega) (by omega) (by omega), hs]; simp [Result.andThen, sliced]
/-- The address of a cut. -/
def subA (a : Option Addr) (cap l size : Nat) : Option Addr := if cap = l then a else a.map (·.add (l * size))
theorem Rd.subA {w : World} {a : Option Addr} {xs : List Value} (h : Rd w a xs) (l n cap size : Nat) (hx : xs.length ≤ cap * size) : Rd w (subA a cap l size) ((xs.drop (l * size)).take n) := by
  refine h.sub _ _ _ fun hne => ?_
  unfold Sp.subA
  rw [if_neg]
  rintro rfl
  apply hne
  rw [List.drop_of_length_le hx]; simp
theorem subA_none {a : Option Addr} {cap l size : Nat} (h : a = none → cap = 0) (hs : Sp.subA a cap l size = none) : cap - l = 0 := by
  unfold Sp.subA at hs
  split at hs
  · omega
  · cases a with
    | none => have := h rfl; omega
    | some a => simp at hs
theorem BS.sub {w : World} {a : Option Addr} {n c : Nat} {bs : List UInt8} (h : BS w (.slice a n c) bs) (l r : Nat) (h1 : l ≤ r) (h2 : r ≤ bs.length) : BS w (.slice (subA a c l 1) (r - l) (c - l)) ((bs.drop l).take (r - l)) := by
  obtain ⟨rfl, h3, h4, h5, h6⟩ := h.rd
  refine ⟨_, _, by rw [List.length_take, List.length_drop]; congr 1; omega, by rw [List.length_take, List.length_drop]; omega, by omega, subA_none h5, ?_⟩
  have := h6.subA l (r - l) c 1 (by simpa using h3)
  simpa [bvs, List.map_take, List.map_drop] using this

/-- An owned row of bytes, to be read and written. -/
theorem St.rowB {B : Nat} {w0 w : World} {R : HP} {e : TypeId} {v : Value} {n : Nat} {l : List UInt8} (s : St B w0 w (row e 1 v n (bvs l) * R)) (hne : v ≠ .slice none 0 0) :
    n = l.length ∧ ∃ g cap, v = .slice (some ⟨g, 0, none⟩) l.length cap ∧ l.length ≤ cap ∧ cap ≤ maxLen ∧ B ≤ g ∧ (∀ j (h : j < l.length), w.cell? ⟨g, j, none⟩ = some (bv l[j])) ∧ (∀ j, w.frozen? ⟨g, j, none⟩ = false) ∧
      BS w (.slice (some ⟨g, 0, none⟩) l.length cap) l ∧
      ∀ (j : Nat) (x : UInt8), j < l.length → St B w0 (w.setCell ⟨g, j, none⟩ (bv x)) (row e 1 (.slice (some ⟨g, 0, none⟩) l.length cap) l.length (bvs (l.set j x)) * R) := by
  obtain ⟨hl, h⟩ := s.rowOpen
  have hn : n = l.length := by simpa using hl.symm
  subst hn
  refine ⟨rfl, ?_⟩
  rcases h with ⟨rfl, _, _⟩ | ⟨g, cap, cur, rfl, h1, h2, h3, h4, t⟩
  · exact absurd rfl hne
  · rw [Nat.mul_one] at h3 h4
    refine ⟨g, cap, rfl, h1, h2, t.lo, fun j hj => ?_, fun j => t.free j, ⟨_, _, rfl, h1, h2, (fun e => by cases e), s.rowRd⟩, fun j x hj => ?_⟩
    · rw [t.cell]
      have := congrArg (·[j]?) h4
      simp only [List.getElem?_take, hj, if_true] at this
      rw [bvs_get hj] at this
      simpa using this
    · refine (t.set j (bv x)).rowMk h1 h2 (by simpa using h3) ?_
      rw [Nat.mul_one, Array.toList_setIfInBounds, List.take_set, h4]
      simp [bvs, List.map_set]

theorem St.bs {B : Nat} {w0 w : World} {R : HP} {e : TypeId} {v : Value} {n : Nat} {l : List UInt8} (s : St B w0 w (row e 1 v n (bvs l) * R)) : BS w v l := by
  obtain ⟨hn, a, c, rfl, _, h⟩ := s.rowBS l rfl
  exact h

theorem run_min2 {P : Program} (w : World) (k : IntKind) (ats : Array TypeId) (ty : TypeId) (x y : Int) : (Builtin.min_ ats ty #[.int k x, .int k y]).run P w = .ok (.int k (min x y)) w := by
  have e : (if y < x then y else x) = min x y := by split <;> omega
  simp [Builtin.min_, Builtin.min2, e]
theorem run_max2 {P : Program} (w : World) (k : IntKind) (ats : Array TypeId) (ty : TypeId) (x y : Int) : (Builtin.max_ ats ty #[.int k x, .int k y]).run P w = .ok (.int k (max x y)) w := by
  have e : (if x < y then y else x) = max x y := by split <;> omega
  simp [Builtin.max_, Builtin.max2, e]

/-- The same, where the value is written out. -/
theorem St.rowB' {B : Nat} {w0 w : World} {R : HP} {e : TypeId} {g n m c : Nat} {l : List UInt8} (s : St B w0 w (row e 1 (.slice (some ⟨g, 0, none⟩) n c) m (bvs l) * R)) :
    n = l.length ∧ m = l.length ∧ l.length ≤ c ∧ c ≤ maxLen ∧ B ≤ g ∧ (∀ j (h : j < l.length), w.cell? ⟨g, j, none⟩ = some (bv l[j])) ∧ (∀ j, w.frozen? ⟨g, j, none⟩ = false) ∧
      BS w (.slice (some ⟨g, 0, none⟩) n c) l ∧
      ∀ (j : Nat) (x : UInt8), j < l.length → St B w0 (w.setCell ⟨g, j, none⟩ (bv x)) (row e 1 (.slice (some ⟨g, 0, none⟩) n c) m (bvs (l.set j x)) * R) := by
  obtain ⟨rfl, g', c', e1, h1, h2, h3, h4, h5, h6, h7⟩ := s.rowB (fun e => by cases e)
  obtain ⟨e2, e3, e4⟩ : some (⟨g, 0, none⟩ : Addr) = some ⟨g', 0, none⟩ ∧ n = l.length ∧ c = c' := by simpa using e1
  cases e2
  subst e3
  subst e4
  exact ⟨rfl, rfl, h1, h2, h3, h4, h5, h6, h7⟩

/-! ### append of zeros: append(s, make([]T, n)...) -/
theorem zeroCells_one (z : Value) (n : Nat) : Builtin.zeroCells #[z] n = (List.replicate n z).toArray := by
  apply Array.ext'
  simp only [Builtin.zeroCells, List.size_toArray, List.length_cons, List.length_nil, Nat.zero_add, Nat.mul_one]
  apply List.ext_getElem
  · simp
  · intro i h1 h2
    simp [Nat.mod_one]
section
variable {P : Program} {B : Nat} {w0 w : World} {R : HP} {t ti e : TypeId} {bytes : Nat} {z : Value} {v : Value} {n : Nat} {xs : List Value} {ki : IntKind}
theorem run_appendZ_st (T : SlT P t e 1 bytes z) (hzc : z.cells = #[z]) (hz1 : z.oneCell' = true) (hti : P.underlying ti = some (.int .i64)) (ty : TypeId) (s : St B w0 w (row e 1 v n xs * R)) (m : Nat)
    (h63 : n + m ≤ maxLen) (hbytes : (n + m) * bytes ≤ 140737488355328) :
    ∃ v' w', (Builtin.append_ #[t, ti] ty #[v, .int ki m]).run P w = .ok v' w' ∧ St B w0 w' (row e 1 v' (n + m) (xs ++ List.replicate m z) * R) ∧ (v' = .slice none 0 0 ↔ v = .slice none 0 0 ∧ m = 0) := by
  obtain ⟨ht, ⟨i, hi, hz, hsz, hby⟩, hzs, hpos⟩ := T
  subst hby
  have hmax : n + m ≤ 9223372036854775807 := by unfold maxLen at h63; omega
  have hwrap : IntKind.i64.wrap (m : Int) = (m : Int) := by rw [IntKind.wrap_i64]; omega
  have n1 : ¬ (m : Int) < 0 := by omega
  have hbm : m * i.bytes ≤ (n + m) * i.bytes := Nat.mul_le_mul_right _ (by omega)
  have n2 : ¬ (281474976710656 < (m : Int) * (i.bytes : Int)) := by rw [← Int.natCast_mul]; omega
  obtain ⟨hxs, so⟩ := s.rowOpen
  rw [Nat.mul_one] at hxs
  by_cases hm : m = 0
  · subst hm
    refine ⟨v, w, ?_, by simpa using s, by simp⟩
    rcases so with ⟨rfl, rfl, _⟩ | ⟨g, cap, cur, rfl, hnc, _⟩
    · simp [Builtin.append_, run_underlying ht, run_underlying hti, sizeOf, typeInfo, hi, asInt, asIntOf, IntKind.wrap_i64]
    · simp [Builtin.append_, run_underlying ht, run_underlying hti, sizeOf, typeInfo, hi, asInt, asIntOf, IntKind.wrap_i64, hnc, storeCells]
  · have hn : (xs ++ List.replicate m z).length = (n + m) * 1 := by simp [hxs]
    have grown : ∀ (old : Nat), old < n + m → ∀ R', St B w0 w R' → St B w0 (w.drew.alloc (.cells (xs.toArray ++ (List.replicate m z).toArray ++ Builtin.zeroCells z.cells (grownCap w (n + m) old e - (n + m))) e))
        (row e 1 (.slice (some ⟨w.heap.size, 0, none⟩) (n + m) (grownCap w (n + m) old e)) (n + m) (xs ++ List.replicate m z) * R') := by
      intro old ho R' sR
      have hge := grownCap_ge w (n + m) old e
      have hcm : grownCap w (n + m) old e ≤ maxLen := grownCap_le_maxLen w (n + m) old e h63
      refine (sR.drew.alloc _).rowMk hge hcm ?_ ?_
      · rw [hzc, zeroCells_one]; simp [hxs]; omega
      · rw [Nat.mul_one, hzc, zeroCells_one]
        simp only [Array.toList_append, List.append_assoc]
        rw [← List.append_assoc]
        have : (xs ++ List.replicate m z).length = n + m := by simpa using hn
        rw [← this]
        exact List.take_left
    rcases so with ⟨rfl, rfl, sR⟩ | ⟨g, cap, cur, rfl, hnc, hcm, hcs, htake, sp⟩
    · have hx : xs = [] := List.eq_nil_of_length_eq_zero hxs
      subst hx

      have hgr := grown 0 (by omega) R sR
      simp only [Nat.zero_add, List.nil_append] at hgr ⊢
      have n4 : ¬ (281474976710656 < Builtin.nextslicecap m 0 * i.bytes) := by
        have := growslice_fits (need := m) (old := 0) (bytes := i.bytes) (by omega) (by simpa using hbytes)
        omega
      have n5 : ¬ (9223372036854775807 < (m : Int)) := by omega
      refine ⟨_, _, ?_, hgr, by simp [hm]⟩
      simp [Builtin.append_, run_underlying ht, run_underlying hti, sizeOf, typeInfo, zeroValue, hi, hz, asInt, asIntOf, hwrap, n1, n2, n4, n5, hm, Question.forced, Builtin.firstCells, newRow, grownCap, hsz, hzc, zeroCells_one]
    · rw [Nat.mul_one] at hcs htake
      by_cases hroom : n + m ≤ cap
      · have hst := run_storeCells_at P g n e (List.replicate m z) 0 cur w sp.block (by simp; omega) (by intro u hu; rw [List.eq_of_mem_replicate hu]; exact hz1)
        simp only [Nat.add_zero, List.length_replicate] at hst
        refine ⟨_, _, ?_, (sp.setRow (cur.toList.take n ++ List.replicate m z ++ cur.toList.drop (n + m)).toArray).rowMk hroom hcm ?_ ?_, by simp⟩
        · simp [Builtin.append_, run_underlying ht, run_underlying hti, sizeOf, typeInfo, zeroValue, hi, hz, asInt, asIntOf, hwrap, n1, n2, hroom, hm, hsz, hzc, zeroCells_one, Addr.add_lit, hst]
        · simp; omega
        · rw [Nat.mul_one, htake]
          have : (xs ++ List.replicate m z).length = n + m := by simpa using hn
          rw [← this]
          exact List.take_left
      · have holds : ∀ j u, xs[j]? = some u → w.cell? ((⟨g, 0, none⟩ : Addr).add j) = some u := by
          intro j u hj
          rw [Addr.add_lit, sp.cell, ← htake, List.getElem?_take] at *
          split at hj
          · simpa using hj
          · cases hj
        have hfo := run_firstCells_some (P := P) w.drew 1 n ⟨g, 0, none⟩ n cap xs (by simpa using hxs) (by simpa using holds)
        have n4 : ¬ (281474976710656 < Builtin.nextslicecap (n + m) cap * i.bytes) := by
          have := growslice_fits (need := n + m) (old := cap) (bytes := i.bytes) (by omega) hbytes
          omega
        have n5 : ¬ (9223372036854775807 < (n : Int) + (m : Int)) := by omega
        refine ⟨_, _, ?_, grown cap (by omega) R sp.right, by simp [hm]⟩
        simp [Builtin.append_, run_underlying ht, run_underlying hti, sizeOf, typeInfo, zeroValue, hi, hz, asInt, asIntOf, hwrap, n1, n2, hroom, n4, n5, hm, Question.forced, hfo, newRow, grownCap, hsz, hzc, zeroCells_one]
variable {ops : Array Oper} {rest : List Oper} {o : Oper} {a : Act} {Q : Exit → Act → World → Prop}
theorem wpl_appendZ (hg : o.guard = none) (so xo : Operand) (hop : o.op = .call { callee := .builtin .append, args := #[so, xo], argTypes := #[t, ti] })
    (T : SlT P t e 1 bytes z) (hzc : z.cells = #[z]) (hz1 : z.oneCell' = true) (hti : P.underlying ti = some (.int .i64)) (s : St B w0 w (row e 1 v n xs * R)) (m : Nat) (hs : a.eval so = v) (hx : a.eval xo = .int ki m)
    (h63 : n + m ≤ maxLen) (hbytes : (n + m) * bytes ≤ 140737488355328)
    (hK : ∀ v' w', St B w0 w' (row e 1 v' (n + m) (xs ++ List.replicate m z) * R) → (v' = .slice none 0 0 ↔ v = .slice none 0 0 ∧ m = 0) → wpList P ops Q rest (a.put o.dst v') w') :
    wpList P ops Q (o :: rest) a w := by
  refine wpList_plain hg fun K hK' => ?_
  obtain ⟨v', w', hrun, r1, r2⟩ := run_appendZ_st (P := P) (ki := ki) T hzc hz1 hti o.type s m h63 hbytes
  unfold Oper.wp
  simp [execOp, hop, resolve, invoke, builtin, hs, hx, hrun, Result.andThen]
  exact hK' _ _ (hK v' w' r1 r2)
end

/-! ### rows of bytes, one beside the other -/
def rows (e : TypeId) : List Value → List (List UInt8) → HP
  | v :: vs, b :: bss => row e 1 v b.length (bvs b) * rows e vs bss
  | _, _ => emp
theorem rows_snoc (e : TypeId) (v : Value) (b : List UInt8) : ∀ (vs : List Value) (bss : List (List UInt8)), vs.length = bss.length → rows e (vs ++ [v]) (bss ++ [b]) = rows e vs bss * row e 1 v b.length (bvs b)
  | [], [], _ => by show row e 1 v b.length (bvs b) * emp = emp * _; rw [sep_emp, emp_sep]
  | u :: vs, c :: bss, h => by
    show row e 1 u c.length (bvs c) * rows e (vs ++ [v]) (bss ++ [b]) = row e 1 u c.length (bvs c) * rows e vs bss * _
    rw [rows_snoc e v b vs bss (by simpa using h), sep_assoc]
theorem St.rowsBS {B : Nat} {w0 w : World} {e : TypeId} : ∀ (vs : List Value) (bss : List (List UInt8)) {R : HP}, St B w0 w (rows e vs bss * R) → vs.length = bss.length → ∀ i (h : i < bss.length), ∃ u, vs[i]? = some u ∧ BS w u bss[i]
  | [], [], _, _, _, i, h => absurd h (by simp)
  | v :: vs, b :: bss, R, s, hl, i, h => by
    have s' : St B w0 w (row e 1 v b.length (bvs b) * (rows e vs bss * R)) := s.eq (sep_assoc _ _ _)
    cases i with
    | zero => exact ⟨v, rfl, s'.bs⟩
    | succ i => exact St.rowsBS vs bss s'.right (by simpa using hl) i (by simpa using h)
theorem St.bss {B : Nat} {w0 w : World} {R : HP} {e e2 : TypeId} {v : Value} {n : Nat} {vs : List Value} {bss : List (List UInt8)} (s : St B w0 w (row e2 1 v n vs * (rows e vs bss * R))) (hn : n = bss.length) : BSS w v bss := by
  subst hn
  obtain ⟨hl, h⟩ := s.rowOpen
  have hl' : vs.length = bss.length := by simpa using hl
  have hb := St.rowsBS vs bss s.right hl'
  rcases h with ⟨rfl, h0, _⟩ | ⟨g, cap, cur, rfl, h1, h2, h3, h4, t⟩
  · exact ⟨none, 0, vs, by rw [h0], .inl (List.eq_nil_of_length_eq_zero (by omega)), hl'.symm, by omega, by simp, fun _ => rfl, hb⟩
  · exact ⟨_, _, vs, rfl, s.rowRd, hl'.symm, h1, h2, (fun e => by cases e), hb⟩

/-- s[:n:n]. -/
theorem run_slice_hm' {P : Program} {t e : TypeId} {size bytes : Nat} {z : Value} (T : SlT P t e size bytes z) (w : World) (a : Option Addr) (len cap n : Nat) (k1 k2 : IntKind) (h : n ≤ cap) :
    (Instr.sliceAt t (.slice a len cap) none (some (.int k1 (n : Int))) (some (.int k2 (n : Int)))).run P w = .ok (.slice a n n) w := by
  obtain ⟨ht, ⟨i, hi', hz, hsz, hby⟩, hzs, hpos⟩ := T
  have he : P.elem t = e := by simp [Program.elem, ht]
  have ht' : P.underlying t = some (.slice (P.elem t)) := by rw [he]; exact ht
  have hs : (sizeOf (P.elem t)).run P w = .ok size w := by rw [he]; simp [sizeOf, typeInfo, hi', hsz]
  have e0 : ∀ x : Option Addr, x.map (·.add 0) = x := fun x => by cases x <;> simp [Addr.add]
  rw [run_sliceAt_slice w t _ _ _ _ ht', run_slice_hm w t a len cap ht' k1 k2 n n (by omega) (by omega) (by omega), hs]
  simp [Result.andThen, sliced, e0]

/-- An owned row that is not nil: its head, and any beginning of it. -/
theorem St.rowSome {B : Nat} {w0 w : World} {R : HP} {e : TypeId} {size : Nat} {v : Value} {n : Nat} {xs : List Value} (s : St B w0 w (row e size v n xs * R)) (hne : v ≠ .slice none 0 0) :
    ∃ g cap, v = .slice (some ⟨g, 0, none⟩) n cap ∧ n ≤ cap ∧ cap ≤ maxLen ∧ B ≤ g ∧ ∀ m, m ≤ n → St B w0 w (row e size (.slice (some ⟨g, 0, none⟩) m cap) m (xs.take (m * size)) * R) := by
  obtain ⟨hl, h⟩ := s.rowOpen
  rcases h with ⟨rfl, _, _⟩ | ⟨g, cap, cur, rfl, h1, h2, h3, h4, t⟩
  · exact absurd rfl hne
  · refine ⟨g, cap, rfl, h1, h2, t.lo, fun m hm => t.rowMk (by omega) h2 h3 ?_⟩
    rw [← h4, List.take_take, Nat.min_eq_left (Nat.mul_le_mul_right _ hm)]

theorem BSS.open' {w : World} {A : Option Addr} {n c : Nat} {bss : List (List UInt8)} (h : BSS w (.slice A n c) bss) :
    n = bss.length ∧ bss.length ≤ c ∧ c ≤ maxLen ∧ (A = none → c = 0) ∧ ∃ vs, Rd w A vs ∧ bss.length = vs.length ∧ ∀ i (h : i < bss.length), ∃ u, vs[i]? = some u ∧ BS w u bss[i] := by
  obtain ⟨A', c', vs, e, h1, h2, h3, h4, h5, h6⟩ := h
  cases e
  exact ⟨rfl, h3, h4, h5, vs, h1, h2, h6⟩

theorem St.drewN {B : Nat} {w0 w : World} {R : HP} (s : St B w0 w R) (n : Nat) : St B w0 (w.drewN n) R := s.keep ⟨rfl, rfl, rfl, Nat.le_refl _, fun _ _ => rfl⟩
/-- A beginning of an owned row, with no room behind it. -/
theorem St.rowCut {B : Nat} {w0 w : World} {R : HP} {e : TypeId} {size : Nat} {a : Option Addr} {k c n : Nat} {xs : List Value} (s : St B w0 w (row e size (.slice a k c) n xs * R)) (m : Nat) (hm : m ≤ n) :
    k = n ∧ m ≤ c ∧ St B w0 w (row e size (.slice a m m) m (xs.take (m * size)) * R) := by
  obtain ⟨hl, h⟩ := s.rowOpen
  rcases h with ⟨hv, rfl, s1⟩ | ⟨g, cap, cur, hv, h1, h2, h3, h4, t⟩
  · obtain ⟨rfl, rfl, rfl⟩ : a = none ∧ k = 0 ∧ c = 0 := by simpa using hv
    obtain rfl : m = 0 := by omega
    refine ⟨rfl, Nat.le_refl _, ?_⟩
    have := s1.rowNil e size
    simpa using this
  · obtain ⟨rfl, rfl, rfl⟩ : a = some ⟨g, 0, none⟩ ∧ k = n ∧ c = cap := by simpa using hv
    refine ⟨rfl, by omega, t.rowMk (Nat.le_refl _) (by omega) (Nat.le_trans (Nat.mul_le_mul_right _ (by omega)) h3) ?_⟩
    rw [← h4, List.take_take, Nat.min_eq_left (Nat.mul_le_mul_right _ hm)]
/-- append(s, x...) on a row of bytes of the call's own. -/
theorem wpl_appendB {P : Program} {B : Nat} {w0 w : World} {R : HP} {t e : TypeId} {v : Value} {n : Nat} {b bs : List UInt8} {ops : Array Oper} {rest : List Oper} {o : Oper} {a : Act} {Q : Exit → Act → World → Prop}
    (hg : o.guard = none) (so xo : Operand) (hop : o.op = .call { callee := .builtin .append, args := #[so, xo], argTypes := #[t, t] })
    (T : SlT P t e 1 1 (.int .u8 0)) (s : St B w0 w (row e 1 v n (bvs b) * R)) (ax : Option Addr) (m c : Nat) (hb : BS w (.slice ax m c) bs) (hs : a.eval so = v) (hx : a.eval xo = .slice ax m c) (h63 : b.length + bs.length ≤ 140737488355328)
    (hK : ∀ a2 c2 w', St B w0 w' (row e 1 (.slice a2 (b ++ bs).length c2) (b ++ bs).length (bvs (b ++ bs)) * R) → wpList P ops Q rest (a.put o.dst (.slice a2 (b ++ bs).length c2)) w') :
    wpList P ops Q (o :: rest) a w := by
  obtain ⟨rfl, h2, h3, h4, h5⟩ := hb.rd
  obtain rfl : n = b.length := by have := s.rowOpen.1; simpa using this.symm
  refine wpl_append hg so xo hop T s ax bs.length c (bvs bs) hs hx h5 h4 (by simp) (bvs_one _) (by unfold maxLen; omega) (by omega) fun v' w' s' _ => ?_
  rw [show bvs b ++ bvs bs = bvs (b ++ bs) from List.map_append.symm, ← List.length_append] at s'
  obtain ⟨-, a2, c2, rfl, -, -⟩ := s'.rowBS (b ++ bs) rfl
  exact hK a2 c2 w' s'

end Go.Proofs.Ytjnfhppjkadlpaa.Sp
