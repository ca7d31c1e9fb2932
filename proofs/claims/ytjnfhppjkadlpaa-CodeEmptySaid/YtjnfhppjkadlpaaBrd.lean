/- Rows of bytes, and shards that may be missing, that can be read wherever something is owned; bytes of one's own, told by a function. No condition. -/
import Derived.Test.YtjnfhppjkadlpaaObr
set_option linter.unusedSimpArgs false
set_option linter.unusedVariables false
namespace Go.Proofs.Ytjnfhppjkadlpaa.Obr
open Go Go.RowKit Go.Proofs.Ytjnfhppjkadlpaa Go.Proofs.Ytjnfhppjkadlpaa.Sp Go.Proofs.Ytjnfhppjkadlpaa.Reg Go.Proofs.Ytjnfhppjkadlpaa.SlW Go.Proofs.Ytjnfhppjkadlpaa.Rd
theorem Reads.of {B : Nat} {w0 : World} {R R' X : HP} {v : Value} {bs : List UInt8} (e : R' = X * R) (h : Reads B w0 R v bs) : Reads B w0 R' v bs := fun w H s => h w (H * X) (s.eq (by rw [e, sep_assoc]))
/-- Rows of bytes. -/
def BRd (B : Nat) (w0 : World) (R : HP) (v : Value) (d : List (List UInt8)) : Prop :=
  ∃ A c vs, v = .slice A d.length c ∧ vs.length = d.length ∧ d.length ≤ c ∧ c ≤ maxLen ∧ (A = none → c = 0) ∧ (∀ w H, St B w0 w (H * R) → Rd w A vs) ∧ ∀ i (h : i < d.length), ∃ u, vs[i]? = some u ∧ Reads B w0 R u d[i]
/-- A header: nil, or bytes. -/
def SR (B : Nat) (w0 : World) (R : HP) (u : Value) : Option (List UInt8) → Prop
  | none => u = .slice none 0 0
  | some b => (∃ g off n c, u = .slice (some ⟨g, off, none⟩) n c) ∧ Reads B w0 R u b
/-- Shards that may be missing. -/
def SRd (B : Nat) (w0 : World) (R : HP) (v : Value) (l : List (Option (List UInt8))) : Prop :=
  ∃ A c vs, v = .slice A l.length c ∧ vs.length = l.length ∧ l.length ≤ c ∧ c ≤ maxLen ∧ (A = none → c = 0) ∧ (∀ w H, St B w0 w (H * R) → Rd w A vs) ∧ ∀ i (h : i < l.length), ∃ u, vs[i]? = some u ∧ SR B w0 R u l[i]
section
variable {B : Nat} {w0 : World} {R R' X : HP} {v : Value}
theorem BRd.of {d : List (List UInt8)} (e : R' = X * R) (h : BRd B w0 R v d) : BRd B w0 R' v d := by
  obtain ⟨A, c, vs, h1, h2, h3, h4, h5, h6, h7⟩ := h
  refine ⟨A, c, vs, h1, h2, h3, h4, h5, fun w H s => h6 w (H * X) (s.eq (by rw [e, sep_assoc])), fun i hi => ?_⟩
  obtain ⟨u, e1, e2⟩ := h7 i hi
  exact ⟨u, e1, Reads.of e e2⟩
theorem SR.of {u : Value} {o : Option (List UInt8)} (e : R' = X * R) (h : SR B w0 R u o) : SR B w0 R' u o := by
  cases o with
  | none => exact h
  | some b => exact ⟨h.1, Reads.of e h.2⟩
theorem SRd.of {l : List (Option (List UInt8))} (e : R' = X * R) (h : SRd B w0 R v l) : SRd B w0 R' v l := by
  obtain ⟨A, c, vs, h1, h2, h3, h4, h5, h6, h7⟩ := h
  refine ⟨A, c, vs, h1, h2, h3, h4, h5, fun w H s => h6 w (H * X) (s.eq (by rw [e, sep_assoc])), fun i hi => ?_⟩
  obtain ⟨u, e1, e2⟩ := h7 i hi
  exact ⟨u, e1, SR.of e e2⟩
theorem bs_nil (w : World) : BS w (.slice none 0 0) [] := ⟨none, 0, rfl, Nat.le_refl _, by unfold maxLen; omega, fun _ => rfl, .inl rfl⟩
theorem SR.reads {u : Value} {o : Option (List UInt8)} (h : SR B w0 R u o) : Reads B w0 R u (o.getD []) := by
  cases o with
  | none => cases (show u = _ from h); exact fun w _ _ => bs_nil w
  | some b => exact h.2
theorem SRd.brd {l : List (Option (List UInt8))} (h : SRd B w0 R v l) : BRd B w0 R v (l.map (·.getD [])) := by
  obtain ⟨A, c, vs, h1, h2, h3, h4, h5, h6, h7⟩ := h
  refine ⟨A, c, vs, by simpa using h1, by simpa using h2, by simpa using h3, h4, h5, h6, fun i hi => ?_⟩
  obtain ⟨u, e1, e2⟩ := h7 i (by simpa using hi)
  exact ⟨u, e1, by simpa using e2.reads⟩
/-- Its beginning. -/
theorem SRd.take {A : Option Addr} {n c : Nat} {l : List (Option (List UInt8))} (h : SRd B w0 R (.slice A n c) l) (k : Nat) (hk : k ≤ l.length) : SRd B w0 R (.slice A k c) (l.take k) := by
  obtain ⟨A, c, vs, h1, h2, h3, h4, h5, h6, h7⟩ := h
  cases h1
  refine ⟨A, c, vs.take k, by simp [hk], by simp [h2], by simp; omega, h4, h5, fun w H s => ?_, fun i hi => ?_⟩
  · have := (h6 w H s).sub 0 k A (fun _ => by cases A <;> simp [Addr.add])
    simpa using this
  · have hi2 : i < k ∧ i < l.length := by rw [List.length_take] at hi; omega
    obtain ⟨u, e1, e2⟩ := h7 i hi2.2
    exact ⟨u, by rw [List.getElem?_take, if_pos hi2.1]; exact e1, by simpa using e2⟩
theorem BRd.bss {d : List (List UInt8)} (h : BRd B w0 R v d) {w : World} {H : HP} (s : St B w0 w (H * R)) : BSS w v d := by
  obtain ⟨A, c, vs, h1, h2, h3, h4, h5, h6, h7⟩ := h
  refine ⟨A, c, vs, h1, h6 w H s, h2.symm, h3, h4, h5, fun i hi => ?_⟩
  obtain ⟨u, e1, e2⟩ := h7 i hi
  exact ⟨u, e1, e2 w H s⟩
/-- All of them are there. -/
theorem BRd.srd {d : List (List UInt8)} {vs : List Value} {A : Option Addr} {c : Nat} (hn : ∀ i (h : i < d.length), ∃ u, vs[i]? = some u ∧ (∃ g off n c, u = .slice (some ⟨g, off, none⟩) n c) ∧ Reads B w0 R u d[i])
    (h2 : vs.length = d.length) (h3 : d.length ≤ c) (h4 : c ≤ maxLen) (h5 : A = none → c = 0) (h6 : ∀ w H, St B w0 w (H * R) → Rd w A vs) : SRd B w0 R (.slice A d.length c) (d.map some) := by
  refine ⟨A, c, vs, by simp, by simpa using h2, by simpa using h3, h4, h5, h6, fun i hi => ?_⟩
  obtain ⟨u, e1, e2, e3⟩ := hn i (by simpa using hi)
  refine ⟨u, e1, ?_⟩
  rw [List.getElem_map]
  exact ⟨e2, e3⟩
theorem ob_row {w : World} {vs : List Value} {l : List (List UInt8)} (s : St B w0 w (ob v vs l * R)) : St B w0 w (row 32 1 v l.length vs * (rows 5 vs l * R)) := s.eq (by unfold ob; ac_rfl)
theorem ob_rows {w : World} {vs : List Value} {l : List (List UInt8)} (s : St B w0 w (ob v vs l * R)) : St B w0 w (rows 5 vs l * (row 32 1 v l.length vs * R)) := s.eq (by unfold ob; ac_rfl)
theorem ob_unrow {w : World} {vs : List Value} {l : List (List UInt8)} (s : St B w0 w (row 32 1 v l.length vs * (rows 5 vs l * R))) : St B w0 w (ob v vs l * R) := s.eq (by unfold ob; ac_rfl)
theorem ob_reads {vs : List Value} {l : List (List UInt8)} (hl : vs.length = l.length) {i : Nat} (hi : i < l.length) {u : Value} (hu : vs[i]? = some u) : Reads B w0 (ob v vs l) u l[i] := fun w H s => by
  obtain ⟨u', e1, e2⟩ := (ob_rows (s.eq (sep_comm _ _))).rowsBS _ _ hl i hi
  rw [hu] at e1
  cases e1
  exact e2
theorem ob_brd {w : World} {vs : List Value} {l : List (List UInt8)} (hl : vs.length = l.length) (s : St B w0 w (ob v vs l * R)) : BRd B w0 (ob v vs l) v l := by
  obtain ⟨a, c, rfl, h1, h2, h3, h4⟩ := (ob_row s).rowSlice
  refine ⟨a, c, vs, rfl, hl, h1, h2, h3, fun w H s => (ob_row (s.eq (sep_comm _ _))).rowRd, fun i hi => ?_⟩
  have hu : vs[i]? = some vs[i] := List.getElem?_eq_getElem (by omega)
  exact ⟨vs[i], hu, ob_reads hl hi hu⟩
theorem ob_srd {w : World} {vs : List Value} {l : List (List UInt8)} (hn : NN vs) (hl : vs.length = l.length) (s : St B w0 w (ob v vs l * R)) : SRd B w0 (ob v vs l) v (l.map some) := by
  obtain ⟨a, c, rfl, h1, h2, h3, h4⟩ := (ob_row s).rowSlice
  refine BRd.srd (vs := vs) (fun i hi => ?_) hl h1 h2 h3 fun w H s => (ob_row (s.eq (sep_comm _ _))).rowRd
  have hu : vs[i]? = some vs[i] := List.getElem?_eq_getElem (by omega)
  obtain ⟨g, n, c, e⟩ := hn vs[i] (List.getElem_mem _)
  exact ⟨vs[i], hu, ⟨g, 0, n, c, e⟩, ob_reads hl hi hu⟩
theorem brd_arg {d : List (List UInt8)} (R : HP) (h : BSS w0 v d) : BRd w0.heap.size w0 R v d := by
  obtain ⟨A, c, vs, h1, h2, h3, h4, h5, h6, h7⟩ := h
  refine ⟨A, c, vs, h1, h3.symm, h4, h5, h6, fun w H s => h2.st rfl s, fun i hi => ?_⟩
  obtain ⟨u, e1, e2⟩ := h7 i hi
  exact ⟨u, e1, reads_arg R e2⟩
/-! ### bytes told by a function -/
def brv (g n : Nat) : Value := .slice (some ⟨g, 0, none⟩) n n
def br (g n : Nat) (f : Nat → UInt8) : HP := row 5 1 (.slice (some ⟨g, 0, none⟩) n n) n (bvs ((List.range n).map f))
theorem br_congr {g n : Nat} {f f' : Nat → UInt8} (h : ∀ q, q < n → f q = f' q) : br g n f = br g n f' := by
  unfold br
  rw [List.map_congr_left (g := f') fun q hq => h q (List.mem_range.1 hq)]
theorem br_at {w : World} {g n : Nat} {f : Nat → UInt8} (s : St B w0 w (br g n f * R)) {q : Nat} (hq : q < n) : w.cell? ⟨g, q, none⟩ = some (bv (f q)) := by
  obtain ⟨-, -, -, -, -, h, -⟩ := St.rowB' s
  rw [h q (by simpa using hq)]
  simp
theorem br_set {w : World} {g n : Nat} {f : Nat → UInt8} (s : St B w0 w (br g n f * R)) {q : Nat} (hq : q < n) (x : UInt8) :
    w.frozen? ⟨g, q, none⟩ = false ∧ St B w0 (w.setCell ⟨g, q, none⟩ (bv x)) (br g n (fun p => if p = q then x else f p) * R) := by
  obtain ⟨-, -, -, -, -, -, h1, -, h2⟩ := St.rowB' s
  refine ⟨h1 q, ?_⟩
  have := h2 q x (by simpa using hq)
  have e : ((List.range n).map f).set q x = (List.range n).map fun p => if p = q then x else f p := by
    refine List.ext_getElem? fun p => ?_
    rw [List.getElem?_set, List.getElem?_map, List.getElem?_map]
    by_cases hp : p < n
    · rw [List.getElem?_range hp]
      by_cases e : q = p
      · subst e; simp [hq]
      · simp [e, Ne.symm e]
    · rw [List.getElem?_eq_none (by simpa using hp)]
      by_cases e : q = p
      · subst e; omega
      · simp [e]
  rw [e] at this
  exact this
theorem br_bs {w : World} {g n : Nat} {f : Nat → UInt8} (s : St B w0 w (br g n f * R)) : BS w (.slice (some ⟨g, 0, none⟩) n n) ((List.range n).map f) := St.bs s
theorem br_made {w : World} {g n : Nat} (s : St B w0 w (row 5 1 (.slice (some ⟨g, 0, none⟩) n n) n (List.replicate n (Value.int .u8 0)) * R)) : St B w0 w (br g n (fun _ => 0) * R) := by
  refine s.eq ?_
  unfold br
  congr 2
  simp [bvs, bv, List.map_const']
end
end Go.Proofs.Ytjnfhppjkadlpaa.Obr
