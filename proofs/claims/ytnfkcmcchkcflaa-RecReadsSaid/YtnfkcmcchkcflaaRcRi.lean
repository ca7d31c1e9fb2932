/- The laws of records: where RecReads picks its bytes. No condition. -/
import Derived.Test.YtnfkcmcchkcflaaRcL4
import Derived.Test.YtnfkcmcchkcflaaRez
set_option linter.unusedSimpArgs false
set_option linter.unusedVariables false
namespace Go.Proofs.Ytnfkcmcchkcflaa.RcL
open Go Go.RowKit Go.Proofs.Ytnfkcmcchkcflaa Go.Proofs.Ytnfkcmcchkcflaa.Sp Go.Proofs.Ytnfkcmcchkcflaa.Reg Go.Proofs.Ytnfkcmcchkcflaa.SlW Go.Proofs.Ytnfkcmcchkcflaa.Rd
theorem tBB : SlT Try.prog 42 32 1 24 (.slice none 0 0) := ⟨Try.underlying42, info_parts (by kernel_rfl), rfl, by decide⟩
/-- What can be read wherever this is owned. -/
def BR (B : Nat) (w0 : World) (H : HP) (v : Value) (l : List UInt8) : Prop := ∀ w K, St B w0 w (H * K) → BS w v l
def xv (v0 v1 v2 v3 : Value) (i : Nat) : Value := #[v0, v1, v2, v3].getD i undef
section
variable {B : Nat} {w0 w : World} {R : HP}
theorem frozen_far {g c : Nat} {C : Array Value} {t : TypeId} (s : St B w0 w (pts g (.cells C t (c, c + 1)) * R)) {i : Nat} (hi : i < c) : w.frozen? ⟨g, i, none⟩ = false := by
  have hb := s.block
  simp only [World.frozen?, hb]
  simp
  omega
/-- []byte(s): a block of one's own. -/
theorem conv_st (F : List UInt8) (hF : F.length ≤ maxLen) (s : St B w0 w R) : ∃ (cap : Nat) (C : Array Value) (w' : World), (convert 9 32 (str F)).run Try.prog w = .ok (.slice (some ⟨w.heap.size, 0, none⟩) F.length cap) w' ∧
    C.size = cap ∧ F.length ≤ cap ∧ cap ≤ maxLen ∧ C.toList.take F.length = bvs F ∧ St B w0 w' (pts w.heap.size (.cells C 5 (cap, cap + 1)) * R) := by
  have hsz : (⟨F.toArray⟩ : ByteArray).size = F.length := by simp [ByteArray.size]
  have q := run_bytes_of_string (P := Try.prog) w 9 32 5 ⟨F.toArray⟩ Try.underlying9 Try.underlying32 Try.underlying5
  rw [hsz] at q
  have g1 := grownCap_ge w F.length 0 5
  have g2 := grownCap_le_maxLen w F.length 0 5 hF
  generalize grownCap w F.length 0 5 = cap at q g1 g2
  have hC : (bytesRow ⟨F.toArray⟩ cap).size = cap := by simp [bytesRow, hsz]; omega
  rw [hC] at q
  exact ⟨cap, _, _, q, hC, g1, g2, by simp [bytesRow, hsz, bvs, List.take_append_of_le_length], s.drew.alloc _⟩
theorem blk_bs {g cap : Nat} {C : Array Value} {f : Nat × Nat} {F : List UInt8} (h1 : F.length ≤ cap) (h2 : cap ≤ maxLen) (h3 : C.toList.take F.length = bvs F) (s : St B w0 w (pts g (.cells C 5 f) * R)) : BS w (.slice (some ⟨g, 0, none⟩) F.length cap) F := by
  refine ⟨_, _, rfl, h1, h2, (fun e => by cases e), .inr ⟨g, 0, rfl, fun j u hj => ?_⟩⟩
  have hj' : j < F.length := by have := (List.getElem?_eq_some_iff.1 hj).1; simpa using this
  rw [Nat.zero_add, s.cell j]
  have h := congrArg (·[j]?) h3
  simp only [List.getElem?_take, hj', if_true] at h
  rw [← hj]
  have h4 : (bvs F)[j]? = (F.map bv)[j]? := rfl
  simp only [Array.getElem?_toList] at h
  exact h.trans h4
/-- append(s, x) in a block of one's own that a text was turned into. -/
theorem app_st {g cap gx : Nat} {C : Array Value} {F : List UInt8} {x : UInt8} (ty : TypeId) (hC : C.size = cap) (h1 : F.length ≤ cap) (h2 : cap ≤ maxLen) (h3 : C.toList.take F.length = bvs F) (hF : F.length ≤ 100000)
    (s : St B w0 w (pts g (.cells C 5 (cap, cap + 1)) * (pts gx (.cells #[bv x] 5 (0, 0)) * R))) :
    ∃ (g' c' : Nat) (H : HP) (w' : World), (Builtin.append_ #[32, 32] ty #[.slice (some ⟨g, 0, none⟩) F.length cap, .slice (some ⟨gx, 0, none⟩) 1 1]).run Try.prog w = .ok (.slice (some ⟨g', 0, none⟩) (F.length + 1) c') w' ∧
      BR B w0 H (.slice (some ⟨g', 0, none⟩) (F.length + 1) c') (F ++ [x]) ∧ St B w0 w' (H * R) := by
  have hx : w.cell? ⟨gx, 0, none⟩ = some (bv x) := by
    have := s.right.cell 0
    simpa using this
  obtain ⟨ht, ⟨i, hi, hz, hsz, hby⟩, hzs, hpos⟩ := tB
  by_cases hr : F.length + 1 ≤ cap
  · have hc : w.cell? ⟨g, F.length, none⟩ = some (C[F.length]'(by omega)) := by rw [s.cell]; exact Array.getElem?_eq_getElem _
    have hf := frozen_far s (i := F.length) (by omega)
    refine ⟨g, cap, pts g (.cells (C.setIfInBounds F.length (bv x)) 5 (cap, cap + 1)), w.setCell ⟨g, F.length, none⟩ (bv x), ?_, ?_, ?_⟩
    · have hfc := run_firstCells_some (P := Try.prog) w i.size 1 ⟨gx, 0, none⟩ 1 1 [bv x] (by rw [hsz]; rfl) (by intro j u hj; cases j with | zero => simp at hj; subst hj; simpa [Addr.add_lit] using hx | succ j => simp at hj)
      have hj1 : ∀ j, j < [bv x].length → (w.cell? ⟨g, F.length + 0 + j, none⟩).isSome = true := fun j hj => by
        obtain rfl : j = 0 := by simpa using hj
        simp [hc]
      have hj2 : ∀ j, j < [bv x].length → w.frozen? ⟨g, F.length + 0 + j, none⟩ = false := fun j hj => by
        obtain rfl : j = 0 := by simpa using hj
        simpa using hf
      have hst := run_storeCells_cells (P := Try.prog) g F.length [bv x] 0 w hj1 hj2 (by intro v hv; simp at hv; subst hv; rfl)
      simp only [Nat.add_zero] at hst
      simp [Builtin.append_, run_underlying ht, sizeOf, typeInfo, hi, Builtin.lenOf, hr, hfc, Addr.add_lit, hsz]
      rw [hsz] at hfc
      rw [hfc]
      simp only [Result.andThen, hst]
      rfl
    · intro w2 K s2
      have q := blk_bs (F := F ++ [x]) (cap := cap) (by simpa using hr) h2 (by
        rw [List.length_append, List.length_singleton, Array.toList_setIfInBounds, List.take_succ_eq_append_getElem (by simp; omega)]
        rw [List.take_set_of_le (Nat.le_refl _), h3, List.getElem_set_self]
        simp [bvs]) s2
      simpa using q
    · exact ((s.set F.length (bv x)).eq (Q := pts gx (.cells #[bv x] 5 (0, 0)) * (pts g (.cells (C.setIfInBounds F.length (bv x)) 5 (cap, cap + 1)) * R)) (by ac_rfl)).right
  · have holds : ∀ j v, (bvs F)[j]? = some v → w.cell? ((⟨g, 0, none⟩ : Addr).add j) = some v := fun j v hj => by
      obtain ⟨a', c', e, -, -, -, hrd⟩ := blk_bs h1 h2 h3 s
      rw [Addr.add_lit, Nat.zero_add, s.cell]
      have hj' : j < F.length := by have := (List.getElem?_eq_some_iff.1 hj).1; simpa [bvs] using this
      have h := congrArg (·[j]?) h3
      simp only [List.getElem?_take, hj', if_true] at h
      rw [← hj, ← h]
      simp
    have hrr := run_append_grow (P := Try.prog) w 32 ty 5 i (.int .u8 0) ht hi hz ⟨g, 0, none⟩ F.length cap (bvs F) (by simp [bvs, hsz]) holds ⟨gx, 0, none⟩ 1 1 [bv x] (by simp [hsz]) (by intro j u hj; cases j with | zero => simp at hj; subst hj; simpa [Addr.add_lit] using hx | succ j => simp at hj) (by omega) (by omega) (by rw [hby, Nat.mul_one]; have := growslice_fits (need := F.length + 1) (old := cap) (bytes := 1) (by omega) (by omega); omega)
    have g1 := grownCap_ge w (F.length + 1) cap 5
    have g2 := grownCap_le_maxLen w (F.length + 1) cap 5 (by unfold maxLen; omega)
    refine ⟨_, _, _, _, hrr, ?_, (s.drew.alloc _).eq (Q := (pts w.heap.size (.cells ((bvs F).toArray ++ [bv x].toArray ++ Builtin.zeroCells (Value.int .u8 0).cells (grownCap w (F.length + 1) cap 5 - (F.length + 1))) 5 (0, 0)) * (pts g (.cells C 5 (cap, cap + 1)) * pts gx (.cells #[bv x] 5 (0, 0)))) * R) (by
      show pts w.heap.size _ * _ = _
      ac_rfl)⟩
    intro w2 K s2
    have s3 := s2.eq (Q := pts w.heap.size (.cells ((bvs F).toArray ++ [bv x].toArray ++ Builtin.zeroCells (Value.int .u8 0).cells (grownCap w (F.length + 1) cap 5 - (F.length + 1))) 5 (0, 0)) * ((pts g (.cells C 5 (cap, cap + 1)) * pts gx (.cells #[bv x] 5 (0, 0))) * K)) (by ac_rfl)
    have q := blk_bs (F := F ++ [x]) (by simpa using g1) g2 (by
      simp only [Array.toList_append, List.append_assoc]
      rw [← List.append_assoc]
      rw [show bvs F ++ [bv x] = bvs (F ++ [x]) by simp [bvs]]
      rw [show (F ++ [x]).length = (bvs (F ++ [x])).length by simp [bvs]]
      exact List.take_left) s3
    simpa using q
end
section
variable {B : Nat} {w0 w : World} {Y : HP} {s : List UInt8} {ub : UInt8} {n i : Nat} {v0 v1 : Value}
/-- Where x := [][]byte{b, c, []byte(s)[:n], append([]byte(s), ub)}[i] stands: which of its operations are done, and what is in their slots. -/
def RI (B : Nat) (w0 : World) (Y : HP) (s : List UInt8) (ub : UInt8) (n i : Nat) (v0 v1 : Value) (b3 b10 b12 b14 b15 b16 b18 b19 b20 : Bool) (t3 t10 t12 t14 t15 t16 t18 t19 t20 : Value) (w : World) : Prop :=
  ∃ (g3 c3 g12 c12 g14 g15 c15 g16 : Nat) (C12 : Array Value) (H3 H15 : HP),
    (b3 = true → t3 = .slice (some ⟨g3, 0, none⟩) s.length c3 ∧ s.length ≤ c3 ∧ BR B w0 H3 (.slice (some ⟨g3, 0, none⟩) s.length c3) s) ∧
    (b10 = true → t10 = .slice (some ⟨g3, 0, none⟩) n c3) ∧
    (b12 = true → t12 = .slice (some ⟨g12, 0, none⟩) s.length c12 ∧ C12.size = c12 ∧ s.length ≤ c12 ∧ c12 ≤ maxLen ∧ C12.toList.take s.length = bvs s) ∧
    (b14 = true → t14 = .slice (some ⟨g14, 0, none⟩) 1 1) ∧
    (b15 = true → t15 = .slice (some ⟨g15, 0, none⟩) (s.length + 1) c15 ∧ BR B w0 H15 (.slice (some ⟨g15, 0, none⟩) (s.length + 1) c15) (s ++ [ub])) ∧
    (b16 = true → t16 = .slice (some ⟨g16, 0, none⟩) 4 4) ∧
    (b18 = true → t18 = .pointer (some ⟨g16, i, none⟩)) ∧
    (b19 = true → t19 = xv v0 v1 (.slice (some ⟨g3, 0, none⟩) n c3) (.slice (some ⟨g15, 0, none⟩) (s.length + 1) c15) i) ∧
    (b20 = true → t20 = xv v0 v1 (.slice (some ⟨g3, 0, none⟩) n c3) (.slice (some ⟨g15, 0, none⟩) (s.length + 1) c15) i) ∧
    St B w0 w ((if b3 = true then H3 else emp) * ((if b15 = true then H15 else ((if b12 = true then pts g12 (.cells C12 5 (c12, c12 + 1)) else emp) * (if b14 = true then pts g14 (.cells #[bv ub] 5 (0, 0)) else emp))) *
      ((if b16 = true then pts g16 (.cells #[v0, v1, .slice (some ⟨g3, 0, none⟩) n c3, .slice (some ⟨g15, 0, none⟩) (s.length + 1) c15] 32 (0, 0)) else emp) * Y)))
/-- Over the region's own counts. -/
def RID (B : Nat) (w0 : World) (Y : HP) (s : List UInt8) (ub : UInt8) (n i : Nat) (v0 v1 : Value) (D : Nat → Bool) (τ : Nat → Value) (w : World) : Prop := RI B w0 Y s ub n i v0 v1 (D 3) (D 10) (D 12) (D 14) (D 15) (D 16) (D 18) (D 19) (D 20) (τ 43) (τ 50) (τ 52) (τ 54) (τ 55) (τ 56) (τ 58) (τ 59) (τ 14) w
theorem RID.start {τ : Nat → Value} (h : St B w0 w Y) : RID B w0 Y s ub n i v0 v1 (fun _ => false) τ w := by
  refine ⟨0, 0, 0, 0, 0, 0, 0, 0, #[], emp, emp, fun e => (by cases e), fun e => (by cases e), fun e => (by cases e), fun e => (by cases e), fun e => (by cases e), fun e => (by cases e), fun e => (by cases e), fun e => (by cases e), fun e => (by cases e), ?_⟩
  simp only [Bool.false_eq_true, if_false, emp_sep]
  exact h
theorem RID.loc {ops : Array Oper} (k3 : (ops[3]?).bind (·.dst) = some 43) (k10 : (ops[10]?).bind (·.dst) = some 50) (k12 : (ops[12]?).bind (·.dst) = some 52) (k14 : (ops[14]?).bind (·.dst) = some 54) (k15 : (ops[15]?).bind (·.dst) = some 55) (k16 : (ops[16]?).bind (·.dst) = some 56) (k18 : (ops[18]?).bind (·.dst) = some 58) (k19 : (ops[19]?).bind (·.dst) = some 59) (k20 : (ops[20]?).bind (·.dst) = some 14) (D D' : Nat → Bool) (τ τ' : Nat → Value) (w : World) (hD : ∀ e ∈ [3, 10, 12, 14, 15, 16, 18, 19, 20], D e = D' e) (hτ : ∀ e ∈ [3, 10, 12, 14, 15, 16, 18, 19, 20], D e = true → ∀ t, (ops[e]?).bind (·.dst) = some t → τ t = τ' t)
    (h : RID B w0 Y s ub n i v0 v1 D τ w) : RID B w0 Y s ub n i v0 v1 D' τ' w := by
  obtain ⟨g3, c3, g12, c12, g14, g15, c15, g16, C12, H3, H15, q3, q10, q12, q14, q15, q16, q18, q19, q20, st⟩ := h
  have d3 := hD 3 (by simp)
  have d10 := hD 10 (by simp)
  have d12 := hD 12 (by simp)
  have d14 := hD 14 (by simp)
  have d15 := hD 15 (by simp)
  have d16 := hD 16 (by simp)
  have d18 := hD 18 (by simp)
  have d19 := hD 19 (by simp)
  have d20 := hD 20 (by simp)
  refine ⟨g3, c3, g12, c12, g14, g15, c15, g16, C12, H3, H15, fun e => ?_, fun e => ?_, fun e => ?_, fun e => ?_, fun e => ?_, fun e => ?_, fun e => ?_, fun e => ?_, fun e => ?_, by rw [← d3, ← d12, ← d14, ← d15, ← d16]; exact st⟩
  · rw [← d3] at e; rw [← hτ 3 (by simp) e 43 k3]; exact q3 e
  · rw [← d10] at e; rw [← hτ 10 (by simp) e 50 k10]; exact q10 e
  · rw [← d12] at e; rw [← hτ 12 (by simp) e 52 k12]; exact q12 e
  · rw [← d14] at e; rw [← hτ 14 (by simp) e 54 k14]; exact q14 e
  · rw [← d15] at e; rw [← hτ 15 (by simp) e 55 k15]; exact q15 e
  · rw [← d16] at e; rw [← hτ 16 (by simp) e 56 k16]; exact q16 e
  · rw [← d18] at e; rw [← hτ 18 (by simp) e 58 k18]; exact q18 e
  · rw [← d19] at e; rw [← hτ 19 (by simp) e 59 k19]; exact q19 e
  · rw [← d20] at e; rw [← hτ 20 (by simp) e 14 k20]; exact q20 e
section
variable {b3 b10 b12 b14 b15 b16 b18 b19 b20 : Bool} {t3 t10 t12 t14 t15 t16 t18 t19 t20 : Value}
theorem RI.s3 (hs : s.length ≤ 100000) (h : RI B w0 Y s ub n i v0 v1 b3 b10 b12 b14 b15 b16 b18 b19 b20 t3 t10 t12 t14 t15 t16 t18 t19 t20 w) (d3 : b3 = false) (d10 : b10 = false) (d16 : b16 = false) (d19 : b19 = false) (d20 : b20 = false) :
    ∃ v w', (convert 9 32 (str s)).run Try.prog w = .ok v w' ∧ RI B w0 Y s ub n i v0 v1 true b10 b12 b14 b15 b16 b18 b19 b20 v t10 t12 t14 t15 t16 t18 t19 t20 w' := by
  obtain ⟨g3, c3, g12, c12, g14, g15, c15, g16, C12, H3, H15, q3, q10, q12, q14, q15, q16, q18, q19, q20, st⟩ := h
  subst d3 d10 d16 d19 d20
  simp only [Bool.false_eq_true, if_false, emp_sep] at st
  obtain ⟨cap, C, w', hr, h1, h2, h3, h4, s'⟩ := conv_st s (by unfold maxLen; omega) st
  refine ⟨_, w', hr, w.heap.size, cap, g12, c12, g14, g15, c15, g16, C12, pts w.heap.size (.cells C 5 (cap, cap + 1)), H15, fun _ => ⟨rfl, h2, fun w2 K s2 => blk_bs h2 h3 h4 s2⟩, fun e => (by cases e), q12, q14, q15, fun e => (by cases e), q18, fun e => (by cases e), fun e => (by cases e), ?_⟩
  simp only [Bool.false_eq_true, if_false, if_true, emp_sep]
  exact s'
theorem RI.s10 (hn : n ≤ s.length) (h : RI B w0 Y s ub n i v0 v1 b3 b10 b12 b14 b15 b16 b18 b19 b20 t3 t10 t12 t14 t15 t16 t18 t19 t20 w) (d3 : b3 = true) :
    ∃ v, (Instr.sliceAt 32 t3 none (some (.int .i64 (n : Int))) none).run Try.prog w = .ok v w ∧ RI B w0 Y s ub n i v0 v1 b3 true b12 b14 b15 b16 b18 b19 b20 t3 v t12 t14 t15 t16 t18 t19 t20 w := by
  obtain ⟨g3, c3, g12, c12, g14, g15, c15, g16, C12, H3, H15, q3, q10, q12, q14, q15, q16, q18, q19, q20, st⟩ := h
  obtain ⟨e, hc, -⟩ := q3 d3
  have q := run_slice_sl (P := Try.prog) tB w (some ⟨g3, 0, none⟩) s.length c3 none (some (.int .i64 (n : Int))) 0 n (.inl ⟨rfl, rfl⟩) (.inr ⟨_, rfl⟩) (Nat.zero_le _) (by omega)
  refine ⟨.slice (some ⟨g3, 0, none⟩) n c3, ?_, g3, c3, g12, c12, g14, g15, c15, g16, C12, H3, H15, q3, fun _ => rfl, q12, q14, q15, q16, q18, q19, q20, st⟩
  rw [e, q]
  congr 2
  split <;> simp [Addr.add_lit]
theorem RI.s12 (hs : s.length ≤ 100000) (h : RI B w0 Y s ub n i v0 v1 b3 b10 b12 b14 b15 b16 b18 b19 b20 t3 t10 t12 t14 t15 t16 t18 t19 t20 w) (d12 : b12 = false) (d15 : b15 = false) :
    ∃ v w', (convert 9 32 (str s)).run Try.prog w = .ok v w' ∧ RI B w0 Y s ub n i v0 v1 b3 b10 true b14 b15 b16 b18 b19 b20 t3 t10 v t14 t15 t16 t18 t19 t20 w' := by
  obtain ⟨g3, c3, g12, c12, g14, g15, c15, g16, C12, H3, H15, q3, q10, q12, q14, q15, q16, q18, q19, q20, st⟩ := h
  subst d12 d15
  simp only [Bool.false_eq_true, if_false, emp_sep] at st
  obtain ⟨cap, C, w', hr, h1, h2, h3, h4, s'⟩ := conv_st s (by unfold maxLen; omega) st
  refine ⟨_, w', hr, g3, c3, w.heap.size, cap, g14, g15, c15, g16, C, H3, H15, q3, q10, fun _ => ⟨rfl, h1, h2, h3, h4⟩, q14, q15, q16, q18, q19, q20, ?_⟩
  simp only [Bool.false_eq_true, if_false, if_true]
  exact s'.eq (by ac_rfl)
theorem RI.s14 (h : RI B w0 Y s ub n i v0 v1 b3 b10 b12 b14 b15 b16 b18 b19 b20 t3 t10 t12 t14 t15 t16 t18 t19 t20 w) (d14 : b14 = false) (d15 : b15 = false) :
    RI B w0 Y s ub n i v0 v1 b3 b10 b12 true b15 b16 b18 b19 b20 t3 t10 t12 (.slice (some ⟨w.heap.size, 0, none⟩) 1 1) t15 t16 t18 t19 t20 (w.alloc (.cells #[bv ub] 5)) := by
  obtain ⟨g3, c3, g12, c12, g14, g15, c15, g16, C12, H3, H15, q3, q10, q12, q14, q15, q16, q18, q19, q20, st⟩ := h
  subst d14 d15
  simp only [Bool.false_eq_true, if_false, sep_emp] at st
  have s' := st.alloc (.cells #[bv ub] 5)
  refine ⟨g3, c3, g12, c12, w.heap.size, g15, c15, g16, C12, H3, H15, q3, q10, q12, fun _ => rfl, q15, q16, q18, q19, q20, ?_⟩
  simp only [Bool.false_eq_true, if_false, if_true]
  exact s'.eq (by ac_rfl)
theorem RI.s15 (ty : TypeId) (hs : s.length ≤ 100000) (h : RI B w0 Y s ub n i v0 v1 b3 b10 b12 b14 b15 b16 b18 b19 b20 t3 t10 t12 t14 t15 t16 t18 t19 t20 w) (d12 : b12 = true) (d14 : b14 = true) (d15 : b15 = false) (d16 : b16 = false) (d19 : b19 = false) (d20 : b20 = false) :
    ∃ v w', (Builtin.append_ #[32, 32] ty #[t12, t14]).run Try.prog w = .ok v w' ∧ RI B w0 Y s ub n i v0 v1 b3 b10 b12 b14 true b16 b18 b19 b20 t3 t10 t12 t14 v t16 t18 t19 t20 w' := by
  obtain ⟨g3, c3, g12, c12, g14, g15, c15, g16, C12, H3, H15, q3, q10, q12, q14, q15, q16, q18, q19, q20, st⟩ := h
  subst d12 d14 d15 d16 d19 d20
  simp only [Bool.false_eq_true, if_false, if_true, emp_sep] at st
  obtain ⟨e12, h1, h2, h3, h4⟩ := q12 rfl
  obtain ⟨g', c', H, w', hr, hb, s'⟩ := app_st (x := ub) ty h1 h2 h3 h4 hs (st.eq (Q := pts g12 (.cells C12 5 (c12, c12 + 1)) * (pts g14 (.cells #[bv ub] 5 (0, 0)) * ((if b3 = true then H3 else emp) * Y))) (by ac_rfl))
  refine ⟨_, w', by rw [e12, q14 rfl]; exact hr, g3, c3, g12, c12, g14, g', c', g16, C12, H3, H, q3, q10, q12, q14, fun _ => ⟨rfl, hb⟩, fun e => (by cases e), q18, fun e => (by cases e), fun e => (by cases e), ?_⟩
  simp only [Bool.false_eq_true, if_false, if_true, emp_sep]
  exact s'.eq (by ac_rfl)
theorem RI.s16 (h : RI B w0 Y s ub n i v0 v1 b3 b10 b12 b14 b15 b16 b18 b19 b20 t3 t10 t12 t14 t15 t16 t18 t19 t20 w) (d10 : b10 = true) (d15 : b15 = true) (d16 : b16 = false) (d18 : b18 = false) (d19 : b19 = false) (d20 : b20 = false) :
    RI B w0 Y s ub n i v0 v1 b3 b10 b12 b14 b15 true b18 b19 b20 t3 t10 t12 t14 t15 (.slice (some ⟨w.heap.size, 0, none⟩) 4 4) t18 t19 t20 (w.alloc (.cells #[v0, v1, t10, t15] 32)) := by
  obtain ⟨g3, c3, g12, c12, g14, g15, c15, g16, C12, H3, H15, q3, q10, q12, q14, q15, q16, q18, q19, q20, st⟩ := h
  subst d16 d18 d19 d20
  simp only [Bool.false_eq_true, if_false, emp_sep] at st
  rw [q10 d10, (q15 d15).1]
  have s' := st.alloc (.cells #[v0, v1, .slice (some ⟨g3, 0, none⟩) n c3, .slice (some ⟨g15, 0, none⟩) (s.length + 1) c15] 32)
  refine ⟨g3, c3, g12, c12, g14, g15, c15, w.heap.size, C12, H3, H15, q3, fun _ => rfl, q12, q14, fun e => ⟨rfl, (q15 e).2⟩, fun _ => rfl, fun e => (by cases e), fun e => (by cases e), fun e => (by cases e), ?_⟩
  simp only [if_true]
  exact s'.eq (by ac_rfl)
theorem RI.shape (h : RI B w0 Y s ub n i v0 v1 b3 b10 b12 b14 b15 b16 b18 b19 b20 t3 t10 t12 t14 t15 t16 t18 t19 t20 w) (d10 : b10 = true) (d15 : b15 = true) : ∃ ga ca gb cb, t10 = .slice (some ⟨ga, 0, none⟩) n ca ∧ t15 = .slice (some ⟨gb, 0, none⟩) (s.length + 1) cb := by
  obtain ⟨g3, c3, g12, c12, g14, g15, c15, g16, C12, H3, H15, q3, q10, q12, q14, q15, q16, q18, q19, q20, st⟩ := h
  exact ⟨_, _, _, _, q10 d10, (q15 d15).1⟩
theorem RI.s18 (h : RI B w0 Y s ub n i v0 v1 b3 b10 b12 b14 b15 b16 b18 b19 b20 t3 t10 t12 t14 t15 t16 t18 t19 t20 w) (d16 : b16 = true) :
    ∃ g, t16 = .slice (some ⟨g, 0, none⟩) 4 4 ∧ RI B w0 Y s ub n i v0 v1 b3 b10 b12 b14 b15 b16 true b19 b20 t3 t10 t12 t14 t15 t16 (.pointer (some ⟨g, i, none⟩)) t19 t20 w := by
  obtain ⟨g3, c3, g12, c12, g14, g15, c15, g16, C12, H3, H15, q3, q10, q12, q14, q15, q16, q18, q19, q20, st⟩ := h
  exact ⟨g16, q16 d16, g3, c3, g12, c12, g14, g15, c15, g16, C12, H3, H15, q3, q10, q12, q14, q15, q16, fun _ => rfl, q19, q20, st⟩
theorem RI.s19 (hi : i < 4) (h : RI B w0 Y s ub n i v0 v1 b3 b10 b12 b14 b15 b16 b18 b19 b20 t3 t10 t12 t14 t15 t16 t18 t19 t20 w) (d10 : b10 = true) (d15 : b15 = true) (d16 : b16 = true) (d18 : b18 = true) :
    ∃ v, (Instr.loadAt 32 t18).run Try.prog w = .ok v w ∧ RI B w0 Y s ub n i v0 v1 b3 b10 b12 b14 b15 b16 b18 true b20 t3 t10 t12 t14 t15 t16 t18 v t20 w := by
  obtain ⟨g3, c3, g12, c12, g14, g15, c15, g16, C12, H3, H15, q3, q10, q12, q14, q15, q16, q18, q19, q20, st⟩ := h
  refine ⟨xv v0 v1 (.slice (some ⟨g3, 0, none⟩) n c3) (.slice (some ⟨g15, 0, none⟩) (s.length + 1) c15) i, ?_, g3, c3, g12, c12, g14, g15, c15, g16, C12, H3, H15, q3, q10, q12, q14, q15, q16, q18, fun _ => rfl, q20, st⟩
  rw [q18 d18]
  subst d16
  have hc := (st.right.right).cell i
  simp only [if_true] at st
  have hc := (st.right.right).cell i
  have hx : (#[v0, v1, .slice (some ⟨g3, 0, none⟩) n c3, .slice (some ⟨g15, 0, none⟩) (s.length + 1) c15] : Array Value)[i]? = some (xv v0 v1 (.slice (some ⟨g3, 0, none⟩) n c3) (.slice (some ⟨g15, 0, none⟩) (s.length + 1) c15) i) := by
    obtain rfl | rfl | rfl | rfl : i = 0 ∨ i = 1 ∨ i = 2 ∨ i = 3 := by omega
    all_goals rfl
  rw [hx] at hc
  simp [go_sem, hc]
theorem RI.s20 (h : RI B w0 Y s ub n i v0 v1 b3 b10 b12 b14 b15 b16 b18 b19 b20 t3 t10 t12 t14 t15 t16 t18 t19 t20 w) (d19 : b19 = true) : RI B w0 Y s ub n i v0 v1 b3 b10 b12 b14 b15 b16 b18 b19 true t3 t10 t12 t14 t15 t16 t18 t19 t19 w := by
  obtain ⟨g3, c3, g12, c12, g14, g15, c15, g16, C12, H3, H15, q3, q10, q12, q14, q15, q16, q18, q19, q20, st⟩ := h
  exact ⟨g3, c3, g12, c12, g14, g15, c15, g16, C12, H3, H15, q3, q10, q12, q14, q15, q16, q18, q19, fun _ => q19 d19, st⟩
end
theorem RID.put3 {D : Nat → Bool} {a : Act} {v : Value} (hsz : 43 < a.tmps.size) (h : RI B w0 Y s ub n i v0 v1 true (D 10) (D 12) (D 14) (D 15) (D 16) (D 18) (D 19) (D 20) v (slotsOf a 50) (slotsOf a 52) (slotsOf a 54) (slotsOf a 55) (slotsOf a 56) (slotsOf a 58) (slotsOf a 59) (slotsOf a 14) w) : RID B w0 Y s ub n i v0 v1 (dset D 3) (slotsOf (a.put (some 43) v)) w := by
  unfold RID
  rw [slotsOf_at _ _ _ hsz, slotsOf_put _ _ _ 50 (by decide), slotsOf_put _ _ _ 52 (by decide), slotsOf_put _ _ _ 54 (by decide), slotsOf_put _ _ _ 55 (by decide), slotsOf_put _ _ _ 56 (by decide), slotsOf_put _ _ _ 58 (by decide), slotsOf_put _ _ _ 59 (by decide), slotsOf_put _ _ _ 14 (by decide)]
  exact h
theorem RID.put10 {D : Nat → Bool} {a : Act} {v : Value} (hsz : 50 < a.tmps.size) (h : RI B w0 Y s ub n i v0 v1 (D 3) true (D 12) (D 14) (D 15) (D 16) (D 18) (D 19) (D 20) (slotsOf a 43) v (slotsOf a 52) (slotsOf a 54) (slotsOf a 55) (slotsOf a 56) (slotsOf a 58) (slotsOf a 59) (slotsOf a 14) w) : RID B w0 Y s ub n i v0 v1 (dset D 10) (slotsOf (a.put (some 50) v)) w := by
  unfold RID
  rw [slotsOf_at _ _ _ hsz, slotsOf_put _ _ _ 43 (by decide), slotsOf_put _ _ _ 52 (by decide), slotsOf_put _ _ _ 54 (by decide), slotsOf_put _ _ _ 55 (by decide), slotsOf_put _ _ _ 56 (by decide), slotsOf_put _ _ _ 58 (by decide), slotsOf_put _ _ _ 59 (by decide), slotsOf_put _ _ _ 14 (by decide)]
  exact h
theorem RID.put12 {D : Nat → Bool} {a : Act} {v : Value} (hsz : 52 < a.tmps.size) (h : RI B w0 Y s ub n i v0 v1 (D 3) (D 10) true (D 14) (D 15) (D 16) (D 18) (D 19) (D 20) (slotsOf a 43) (slotsOf a 50) v (slotsOf a 54) (slotsOf a 55) (slotsOf a 56) (slotsOf a 58) (slotsOf a 59) (slotsOf a 14) w) : RID B w0 Y s ub n i v0 v1 (dset D 12) (slotsOf (a.put (some 52) v)) w := by
  unfold RID
  rw [slotsOf_at _ _ _ hsz, slotsOf_put _ _ _ 43 (by decide), slotsOf_put _ _ _ 50 (by decide), slotsOf_put _ _ _ 54 (by decide), slotsOf_put _ _ _ 55 (by decide), slotsOf_put _ _ _ 56 (by decide), slotsOf_put _ _ _ 58 (by decide), slotsOf_put _ _ _ 59 (by decide), slotsOf_put _ _ _ 14 (by decide)]
  exact h
theorem RID.put14 {D : Nat → Bool} {a : Act} {v : Value} (hsz : 54 < a.tmps.size) (h : RI B w0 Y s ub n i v0 v1 (D 3) (D 10) (D 12) true (D 15) (D 16) (D 18) (D 19) (D 20) (slotsOf a 43) (slotsOf a 50) (slotsOf a 52) v (slotsOf a 55) (slotsOf a 56) (slotsOf a 58) (slotsOf a 59) (slotsOf a 14) w) : RID B w0 Y s ub n i v0 v1 (dset D 14) (slotsOf (a.put (some 54) v)) w := by
  unfold RID
  rw [slotsOf_at _ _ _ hsz, slotsOf_put _ _ _ 43 (by decide), slotsOf_put _ _ _ 50 (by decide), slotsOf_put _ _ _ 52 (by decide), slotsOf_put _ _ _ 55 (by decide), slotsOf_put _ _ _ 56 (by decide), slotsOf_put _ _ _ 58 (by decide), slotsOf_put _ _ _ 59 (by decide), slotsOf_put _ _ _ 14 (by decide)]
  exact h
theorem RID.put15 {D : Nat → Bool} {a : Act} {v : Value} (hsz : 55 < a.tmps.size) (h : RI B w0 Y s ub n i v0 v1 (D 3) (D 10) (D 12) (D 14) true (D 16) (D 18) (D 19) (D 20) (slotsOf a 43) (slotsOf a 50) (slotsOf a 52) (slotsOf a 54) v (slotsOf a 56) (slotsOf a 58) (slotsOf a 59) (slotsOf a 14) w) : RID B w0 Y s ub n i v0 v1 (dset D 15) (slotsOf (a.put (some 55) v)) w := by
  unfold RID
  rw [slotsOf_at _ _ _ hsz, slotsOf_put _ _ _ 43 (by decide), slotsOf_put _ _ _ 50 (by decide), slotsOf_put _ _ _ 52 (by decide), slotsOf_put _ _ _ 54 (by decide), slotsOf_put _ _ _ 56 (by decide), slotsOf_put _ _ _ 58 (by decide), slotsOf_put _ _ _ 59 (by decide), slotsOf_put _ _ _ 14 (by decide)]
  exact h
theorem RID.put16 {D : Nat → Bool} {a : Act} {v : Value} (hsz : 56 < a.tmps.size) (h : RI B w0 Y s ub n i v0 v1 (D 3) (D 10) (D 12) (D 14) (D 15) true (D 18) (D 19) (D 20) (slotsOf a 43) (slotsOf a 50) (slotsOf a 52) (slotsOf a 54) (slotsOf a 55) v (slotsOf a 58) (slotsOf a 59) (slotsOf a 14) w) : RID B w0 Y s ub n i v0 v1 (dset D 16) (slotsOf (a.put (some 56) v)) w := by
  unfold RID
  rw [slotsOf_at _ _ _ hsz, slotsOf_put _ _ _ 43 (by decide), slotsOf_put _ _ _ 50 (by decide), slotsOf_put _ _ _ 52 (by decide), slotsOf_put _ _ _ 54 (by decide), slotsOf_put _ _ _ 55 (by decide), slotsOf_put _ _ _ 58 (by decide), slotsOf_put _ _ _ 59 (by decide), slotsOf_put _ _ _ 14 (by decide)]
  exact h
theorem RID.put18 {D : Nat → Bool} {a : Act} {v : Value} (hsz : 58 < a.tmps.size) (h : RI B w0 Y s ub n i v0 v1 (D 3) (D 10) (D 12) (D 14) (D 15) (D 16) true (D 19) (D 20) (slotsOf a 43) (slotsOf a 50) (slotsOf a 52) (slotsOf a 54) (slotsOf a 55) (slotsOf a 56) v (slotsOf a 59) (slotsOf a 14) w) : RID B w0 Y s ub n i v0 v1 (dset D 18) (slotsOf (a.put (some 58) v)) w := by
  unfold RID
  rw [slotsOf_at _ _ _ hsz, slotsOf_put _ _ _ 43 (by decide), slotsOf_put _ _ _ 50 (by decide), slotsOf_put _ _ _ 52 (by decide), slotsOf_put _ _ _ 54 (by decide), slotsOf_put _ _ _ 55 (by decide), slotsOf_put _ _ _ 56 (by decide), slotsOf_put _ _ _ 59 (by decide), slotsOf_put _ _ _ 14 (by decide)]
  exact h
theorem RID.put19 {D : Nat → Bool} {a : Act} {v : Value} (hsz : 59 < a.tmps.size) (h : RI B w0 Y s ub n i v0 v1 (D 3) (D 10) (D 12) (D 14) (D 15) (D 16) (D 18) true (D 20) (slotsOf a 43) (slotsOf a 50) (slotsOf a 52) (slotsOf a 54) (slotsOf a 55) (slotsOf a 56) (slotsOf a 58) v (slotsOf a 14) w) : RID B w0 Y s ub n i v0 v1 (dset D 19) (slotsOf (a.put (some 59) v)) w := by
  unfold RID
  rw [slotsOf_at _ _ _ hsz, slotsOf_put _ _ _ 43 (by decide), slotsOf_put _ _ _ 50 (by decide), slotsOf_put _ _ _ 52 (by decide), slotsOf_put _ _ _ 54 (by decide), slotsOf_put _ _ _ 55 (by decide), slotsOf_put _ _ _ 56 (by decide), slotsOf_put _ _ _ 58 (by decide), slotsOf_put _ _ _ 14 (by decide)]
  exact h
theorem RID.put20 {D : Nat → Bool} {a : Act} {v : Value} (hsz : 14 < a.tmps.size) (h : RI B w0 Y s ub n i v0 v1 (D 3) (D 10) (D 12) (D 14) (D 15) (D 16) (D 18) (D 19) true (slotsOf a 43) (slotsOf a 50) (slotsOf a 52) (slotsOf a 54) (slotsOf a 55) (slotsOf a 56) (slotsOf a 58) (slotsOf a 59) v w) : RID B w0 Y s ub n i v0 v1 (dset D 20) (slotsOf (a.put (some 14) v)) w := by
  unfold RID
  rw [slotsOf_at _ _ _ hsz, slotsOf_put _ _ _ 43 (by decide), slotsOf_put _ _ _ 50 (by decide), slotsOf_put _ _ _ 52 (by decide), slotsOf_put _ _ _ 54 (by decide), slotsOf_put _ _ _ 55 (by decide), slotsOf_put _ _ _ 56 (by decide), slotsOf_put _ _ _ 58 (by decide), slotsOf_put _ _ _ 59 (by decide)]
  exact h
/-- What is picked, at the end. -/
theorem RID.fin {τ : Nat → Value} (hn : n ≤ s.length) (hi : i < 4) (h : RID B w0 Y s ub n i v0 v1 (fun _ => true) τ w) (x0 x1 : List UInt8) (h0 : BR B w0 Y v0 x0) (h1 : BR B w0 Y v1 x1) :
    ∃ H, St B w0 w (H * Y) ∧ BR B w0 (H * Y) (τ 14) (([x0, x1, s.take n, s ++ [ub]] : List (List UInt8)).getD i []) := by
  obtain ⟨g3, c3, g12, c12, g14, g15, c15, g16, C12, H3, H15, q3, q10, q12, q14, q15, q16, q18, q19, q20, st⟩ := h
  simp only [if_true] at st
  refine ⟨H3 * (H15 * pts g16 (.cells #[v0, v1, .slice (some ⟨g3, 0, none⟩) n c3, .slice (some ⟨g15, 0, none⟩) (s.length + 1) c15] 32 (0, 0))), st.eq (by ac_rfl), fun w2 K s2 => ?_⟩
  rw [q20 rfl]
  obtain rfl | rfl | rfl | rfl : i = 0 ∨ i = 1 ∨ i = 2 ∨ i = 3 := by omega
  · exact h0 w2 ((H3 * (H15 * pts g16 (.cells #[v0, v1, .slice (some ⟨g3, 0, none⟩) n c3, .slice (some ⟨g15, 0, none⟩) (s.length + 1) c15] 32 (0, 0)))) * K) (s2.eq (by ac_rfl))
  · exact h1 w2 ((H3 * (H15 * pts g16 (.cells #[v0, v1, .slice (some ⟨g3, 0, none⟩) n c3, .slice (some ⟨g15, 0, none⟩) (s.length + 1) c15] 32 (0, 0)))) * K) (s2.eq (by ac_rfl))
  · have q := (q3 rfl).2.2 w2 ((H15 * pts g16 (.cells #[v0, v1, .slice (some ⟨g3, 0, none⟩) n c3, .slice (some ⟨g15, 0, none⟩) (s.length + 1) c15] 32 (0, 0))) * (Y * K)) (s2.eq (by ac_rfl))
    have q2 := q.sub 0 n (Nat.zero_le _) hn
    simp only [subA, Nat.sub_zero, List.drop_zero] at q2
    show BS w2 (.slice (some ⟨g3, 0, none⟩) n c3) (s.take n)
    split at q2 <;> simpa [Addr.add_lit] using q2
  · exact (q15 rfl).2 w2 (H3 * (pts g16 (.cells #[v0, v1, .slice (some ⟨g3, 0, none⟩) n c3, .slice (some ⟨g15, 0, none⟩) (s.length + 1) c15] 32 (0, 0)) * (Y * K))) (s2.eq (by ac_rfl))
end
end Go.Proofs.Ytnfkcmcchkcflaa.RcL
