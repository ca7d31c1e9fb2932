/- Rows of bytes of one's own, none of them nil; bytes.Equal; shards that may be missing. No condition. -/
import Derived.Test.YtjnfhppjkadlpaaRws
import Derived.Test.YtjnfhppjkadlpaaRd
import Derived.Test.YtjnfhppjkadlpaaRo
import Derived.Test.YtjnfhppjkadlpaaRey
import Derived.Test.YtjnfhppjkadlpaaReg
set_option linter.unusedSimpArgs false
set_option linter.unusedVariables false
namespace Go.Proofs.Ytjnfhppjkadlpaa.Obr
open Go Go.RowKit Go.Proofs.Ytjnfhppjkadlpaa Go.Proofs.Ytjnfhppjkadlpaa.Sp Go.Proofs.Ytjnfhppjkadlpaa.Reg Go.Proofs.Ytjnfhppjkadlpaa.SlW Go.Proofs.Ytjnfhppjkadlpaa.Rd
theorem tBB : SlT Try.prog 38 32 1 24 (.slice none 0 0) := ⟨Try.underlying38, info_parts (by kernel_rfl), rfl, by decide⟩
/-- A slice that is no nil. -/
def Nn (v : Value) : Prop := ∃ g n c, v = .slice (some ⟨g, 0, none⟩) n c
/-- None is nil. -/
def NN (vs : List Value) : Prop := ∀ v ∈ vs, Nn v
theorem NN.nil : NN [] := fun _ h => by cases h
theorem NN.app {a b : List Value} (ha : NN a) (hb : NN b) : NN (a ++ b) := fun v h => (List.mem_append.1 h).elim (ha v) (hb v)
theorem NN.snoc {a : List Value} {v : Value} (ha : NN a) (hv : Nn v) : NN (a ++ [v]) := ha.app fun x h => by cases List.mem_singleton.1 h; exact hv
/-- Rows of bytes of one's own. -/
def ob (v : Value) (vs : List Value) (l : List (List UInt8)) : HP := row 32 1 v l.length vs * rows 5 vs l
section
variable {B : Nat} {w0 : World} {R : HP}
theorem ob_nil {w : World} (s : St B w0 w R) : St B w0 w (ob (.slice none 0 0) [] [] * R) := by
  unfold ob
  show St B w0 w (row 32 1 (.slice none 0 0) 0 [] * emp * R)
  rw [sep_emp]
  exact s.rowNil _ _
theorem ob_snoc {w : World} {v v' : Value} {vs : List Value} {l : List (List UInt8)} {r : List UInt8} (h : vs.length = l.length) (s : St B w0 w (row 32 1 v (l.length + 1) (vs ++ [v']) * (rows 5 vs l * (row 5 1 v' r.length (bvs r) * R)))) :
    St B w0 w (ob v (vs ++ [v']) (l ++ [r]) * R) := by
  unfold ob
  rw [rows_snoc _ _ _ _ _ h, List.length_append]
  exact s.eq (by show _ = row 32 1 v (l.length + 1) (vs ++ [v']) * _ * _; ac_rfl)
theorem ob_bss {w : World} {v : Value} {vs : List Value} {l : List (List UInt8)} (s : St B w0 w (ob v vs l * R)) : BSS w v l := by
  unfold ob at s
  exact (s.eq (sep_assoc _ _ _)).bss rfl
/-- Rows one behind the other. -/
theorem rows_app (e : TypeId) : ∀ (vs vs' : List Value) (l l' : List (List UInt8)), vs.length = l.length → rows e (vs ++ vs') (l ++ l') = rows e vs l * rows e vs' l'
  | [], vs', [], l', _ => (emp_sep _).symm
  | v :: vs, vs', b :: l, l', h => by
    show row e 1 v b.length (bvs b) * rows e (vs ++ vs') (l ++ l') = row e 1 v b.length (bvs b) * rows e vs l * rows e vs' l'
    rw [rows_app e vs vs' l l' (by simpa using h), sep_assoc]
  | [], _, _ :: _, _, h => by simp at h
  | _ :: _, _, [], _, h => by simp at h
/-- A new row of noughts that is no nil. -/
theorem make1_nn {w : World} {g n : Nat} (hn : n ≤ maxLen) (s : St B w0 w (pts g (.cells (Array.replicate n (Value.int .u8 0)) 5) * R)) :
    St B w0 w (row 5 1 (.slice (some ⟨g, 0, none⟩) n n) n (bvs (List.replicate n 0)) * R) := s.rowMk (Nat.le_refl _) hn (by simp) (by simp [bvs, bv])
/-! ### shards that may be missing -/
/-- A shard's header: nil, or bytes that can be read. -/
def SB (w : World) (v : Value) : Option (List UInt8) → Prop
  | none => v = .slice none 0 0
  | some b => BS w v b ∧ ∃ g off n c, v = .slice (some ⟨g, off, none⟩) n c
/-- Shards that can be read. -/
def SHS (w : World) (v : Value) (l : List (Option (List UInt8))) : Prop :=
  ∃ a c vs, v = .slice a l.length c ∧ Rd w a vs ∧ vs.length = l.length ∧ l.length ≤ c ∧ c ≤ maxLen ∧ (a = none → c = 0) ∧ ∀ i (hi : i < l.length), ∃ v, vs[i]? = some v ∧ SB w v l[i]
theorem SB.bs {w : World} {v : Value} {o : Option (List UInt8)} (h : SB w v o) : BS w v (o.getD []) := by
  cases o with
  | none =>
    cases (show v = .slice none 0 0 from h)
    exact ⟨none, 0, rfl, Nat.le_refl _, by unfold maxLen; omega, fun _ => rfl, .inl rfl⟩
  | some b => exact h.1
theorem SHS.bss {w : World} {v : Value} {l : List (Option (List UInt8))} (h : SHS w v l) : BSS w v (l.map (·.getD [])) := by
  obtain ⟨a, c, vs, rfl, hr, hl, h1, h2, h3, hb⟩ := h
  refine ⟨a, c, vs, by simp, hr, by simpa using hl.symm, by simpa using h1, h2, h3, fun i hi => ?_⟩
  obtain ⟨v, e1, e2⟩ := hb i (by simpa using hi)
  exact ⟨v, e1, by simpa using e2.bs⟩
theorem SHS.at {w : World} {a : Option Addr} {n c : Nat} {l : List (Option (List UInt8))} (h : SHS w (.slice a n c) l) (k : Nat) (hk : k < l.length) : ∃ b off v, a = some ⟨b, off, none⟩ ∧ w.cell? ⟨b, off + k, none⟩ = some v ∧ SB w v l[k] := by
  obtain ⟨a, c, vs, e, hr, hl, h1, h2, h3, hb⟩ := h
  cases e
  obtain ⟨v, e1, e2⟩ := hb k hk
  obtain ⟨b, off, rfl, hc⟩ := hr.at (by rintro rfl; simp at hl; omega)
  exact ⟨b, off, v, rfl, hc k v e1, e2⟩
/-- All of them are there. -/
theorem ob_shs {w : World} {v : Value} {vs : List Value} {l : List (List UInt8)} (hn : NN vs) (hl : vs.length = l.length) (s : St B w0 w (ob v vs l * R)) : SHS w v (l.map some) := by
  have s1 : St B w0 w (row 32 1 v l.length vs * (rows 5 vs l * R)) := s.eq (by unfold ob; ac_rfl)
  have s2 : St B w0 w (rows 5 vs l * (row 32 1 v l.length vs * R)) := s.eq (by unfold ob; ac_rfl)
  obtain ⟨a, c, rfl, h1, h2, h3, h4⟩ := s1.rowSlice
  refine ⟨a, c, vs, by simp, s1.rowRd, by simpa using hl, by simpa using h1, h2, h3, fun i hi => ?_⟩
  obtain ⟨u, e1, e2⟩ := s2.rowsBS _ _ hl i (by simpa using hi)
  refine ⟨u, e1, ?_⟩
  rw [List.getElem_map]
  obtain ⟨g, n, c, e⟩ := hn u (List.mem_of_getElem? e1)
  exact ⟨e2, g, 0, n, c, e⟩
set_option maxHeartbeats 400000 in
theorem equal_calls (v1 v2 : Value) (l1 l2 : List UInt8) (w : World) (h1 : BS w v1 l1) (h2 : BS w v2 l2) :
    Calls Try.prog 59 #[v1, v2] w fun e w' => e = .returned (.bool (decide (l1 = l2))) ∧ w = w' := by
  obtain ⟨a1, c1, rfl, -⟩ := id h1
  obtain ⟨a2, c2, rfl, -⟩ := id h2
  have q1 := run_str (P := Try.prog) Try.underlying32 Try.underlying5 Try.underlying9 h1
  have q2 := run_str (P := Try.prog) Try.underlying32 Try.underlying5 Try.underlying9 h2
  clear h1 h2
  by_cases he : l1 = l2
  · subst he
    go_enter Try.func59, Try.ntmps59
    go_wp2_with fail
    go_ret
    exact ⟨by simp, rfl⟩
  · have hd : decide (l1 = l2) = false := decide_eq_false he
    rw [hd]
    have hne : ¬ ((⟨l1.toArray⟩ : ByteArray) = ⟨l2.toArray⟩) := by
      intro e
      injection e with e
      exact he (by simpa using e)
    clear hd
    have HE := Lib.hid he
    clear he
    go_enter Try.func59, Try.ntmps59
    go_wp2_with fail
    go_ret
    exact ⟨by simp [HE.out], rfl⟩
end
end Go.Proofs.Ytjnfhppjkadlpaa.Obr
