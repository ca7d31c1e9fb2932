/- The disk, walked: 'last', Sync, Crash. No condition. -/
import Derived.Test.YteikpbangjpilaaDskW
namespace Go.Proofs.Yteikpbangjpilaa.DskW
open Go Go.RowKit Go.Proofs.Yteikpbangjpilaa Go.Proofs.Yteikpbangjpilaa.Sp Go.Proofs.Yteikpbangjpilaa.Reg Go.Proofs.Yteikpbangjpilaa.SlW Go.Proofs.Yteikpbangjpilaa.Fus Go.Proofs.Yteikpbangjpilaa.DskN Go.Proofs.Yteikpbangjpilaa.Rd

/-- One write lasts, or its beginning. -/
def step (keep torn k : Nat) (x : Nat × List UInt8) (L : List (List UInt8)) : List (List UInt8) :=
  if k < keep then L.set x.1 x.2 else if k = keep then L.set x.1 (x.2.take torn ++ (L.getD x.1 []).drop torn) else L
def lastK (keep torn : Nat) (pend : List (Nat × List UInt8)) (L : List (List UInt8)) : Nat → List (List UInt8)
  | 0 => L
  | k + 1 => step keep torn k (pend.getD k (0, [])) (lastK keep torn pend L k)
theorem step_len (keep torn k : Nat) (x : Nat × List UInt8) (L : List (List UInt8)) : (step keep torn k x L).length = L.length := by
  unfold step; split
  · simp
  · split <;> simp
theorem lastK_len (keep torn : Nat) (pend : List (Nat × List UInt8)) (L : List (List UInt8)) : ∀ k, (lastK keep torn pend L k).length = L.length
  | 0 => rfl
  | k + 1 => by unfold lastK; rw [step_len, lastK_len keep torn pend L k]
theorem step_96 {keep torn k : Nat} {x : Nat × List UInt8} {L : List (List UInt8)} (ht : torn ≤ 96) (hx : x.2.length = 96) (hs : x.1 < L.length) (h : ∀ b ∈ L, b.length = 96) : ∀ b ∈ step keep torn k x L, b.length = 96 := by
  intro b hb
  unfold step at hb
  split at hb
  · rcases List.mem_or_eq_of_mem_set hb with h1 | h1
    · exact h b h1
    · rw [h1]; exact hx
  · split at hb
    · rcases List.mem_or_eq_of_mem_set hb with h1 | h1
      · exact h b h1
      · rw [h1]
        have e : (L.getD x.1 []).length = 96 := by
          simp only [List.getD_eq_getElem?_getD, List.getElem?_eq_getElem hs, Option.getD_some]
          exact h _ (List.getElem_mem hs)
        rw [List.length_append, List.length_take, List.length_drop, hx, e]
        omega
    · exact h b hb
theorem lastK_96 {keep torn : Nat} {pend : List (Nat × List UInt8)} {L : List (List UInt8)} (ht : torn ≤ 96) (hp : ∀ x ∈ pend, x.2.length = 96) (hs : ∀ x ∈ pend, x.1 < L.length) (h : ∀ b ∈ L, b.length = 96) : ∀ k, k ≤ pend.length → ∀ b ∈ lastK keep torn pend L k, b.length = 96
  | 0, _ => h
  | k + 1, hk => by
    have hm : pend.getD k (0, []) = pend[k] := by simp [List.getD_eq_getElem?_getD, show k < pend.length by omega]
    unfold lastK
    rw [hm]
    exact step_96 ht (hp _ (List.getElem_mem _)) (by rw [lastK_len]; exact hs _ (List.getElem_mem _)) (lastK_96 ht hp hs h k (by omega))
section
variable {B : Nat} {w0 : World} {R : HP} {bk : Nat} {fv vl vp : Value} {ls ps : List Value} {L : List (List UInt8)} {pend : List (Nat × List UInt8)} {gone : Bool}
/-- A slot's own row, and what is round it. -/
theorem last_focus {w : World} (s : St B w0 w (dkO bk fv vl vp ls ps ⟨L, pend, gone⟩ R)) (h1 : ls.length = L.length) (slot : Nat) (hs : slot < L.length) (h96 : (L[slot]).length = 96) :
    ∃ gl cl gd cd X, vl = .slice (some ⟨gl, 0, none⟩) L.length cl ∧ (∀ j, j < L.length → w.cell? ⟨gl, j, none⟩ = ls[j]?) ∧ ls[slot]? = some (.slice (some ⟨gd, 0, none⟩) 96 cd) ∧ St B w0 w (row 5 1 (.slice (some ⟨gd, 0, none⟩) 96 cd) 96 (bvs L[slot]) * X) ∧
      ∀ w' b, b.length = 96 → St B w0 w' (row 5 1 (.slice (some ⟨gd, 0, none⟩) 96 cd) 96 (bvs b) * X) → St B w0 w' (dkO bk fv vl vp ls ps ⟨L.set slot b, pend, gone⟩ R) := by
  obtain ⟨gl, cl, rfl, _, _, _, hlc⟩ := (dkO_l s).rowCells (by show 0 < L.length; omega)
  have s2 : St B w0 w (rows 5 ls L * (pts bk (.cells #[fv, .slice (some ⟨gl, 0, none⟩) L.length cl, vp, .bool gone] 90 (0, 0)) * (row 25 1 (.slice (some ⟨gl, 0, none⟩) L.length cl) L.length ls * (row 92 2 vp pend.length (flat pend ps) * (rows 5 ps (pend.map (·.2)) * R))))) := (dkO_d s).eq (by ac_rfl)
  have hv : ls[slot]? = some (ls[slot]'(by omega)) := List.getElem?_eq_getElem (by omega)
  have s3 := s2.rowsAt h1 hv (List.getElem?_eq_getElem hs)
  obtain ⟨gd, cd, e, _, _, _, _⟩ := s3.rowCells (by omega)
  rw [h96] at s3 e
  refine ⟨gl, cl, gd, cd, _, rfl, fun j hj => hlc j (by simpa using hj), by rw [hv, e], by rw [← e]; exact s3, fun w' b hb s4 => ?_⟩
  rw [← e, ← hb] at s4
  have s5 := St.rowsSet h1 hv s4
  unfold dkO
  simp only [List.length_set]
  exact s5.eq (by ac_rfl)
theorem copy_last {w : World} (s : St B w0 w (dkO bk fv vl vp ls ps ⟨L, pend, gone⟩ R)) (h1 : ls.length = L.length) (slot : Nat) (hs : slot < L.length) (h96 : (L[slot]).length = 96) {gd cd : Nat} (hv : ls[slot]? = some (.slice (some ⟨gd, 0, none⟩) 96 cd))
    {a : Option Addr} {n c : Nat} {data : List UInt8} (hb : BS w (.slice a n c) data) (hn : data.length ≤ 96) :
    ∃ w', (Builtin.copy_ #[25, 25] 3 #[.slice (some ⟨gd, 0, none⟩) 96 cd, .slice a n c]).run Try.prog w = .ok (.int .i64 n) w' ∧ St B w0 w' (dkO bk fv vl vp ls ps ⟨L.set slot (data ++ (L[slot]).drop data.length), pend, gone⟩ R) := by
  obtain ⟨gl, cl, gd', cd', X, _, _, hv', s3, back⟩ := last_focus s h1 slot hs h96
  rw [hv] at hv'
  obtain ⟨rfl, rfl⟩ : gd = gd' ∧ cd = cd' := by simpa using hv'
  obtain rfl := hb.rd.1
  obtain ⟨w', hr, s4⟩ := run_copy_st (P := Try.prog) (dT := 25) (sT := 25) (ty := 3) Try.underlying25 (by kernel_rfl) s3 0 96 cd a c data hb hn (by rw [h96]; omega)
  refine ⟨w', hr, back w' _ ?_ ?_⟩
  · rw [List.length_append, List.length_drop, h96]; omega
  · simpa using s4
theorem dkO_x {X : HP} {D : Dk} {w : World} (s : St B w0 w (X * dkO bk fv vl vp ls ps D R)) : St B w0 w (dkO bk fv vl vp ls ps D (X * R)) := s.eq (by unfold dkO; ac_rfl)
theorem dkO_y {X : HP} {D : Dk} {w : World} (s : St B w0 w (dkO bk fv vl vp ls ps D (X * R))) : St B w0 w (X * dkO bk fv vl vp ls ps D R) := s.eq (by unfold dkO; ac_rfl)
end
section
variable {B : Nat} {w0 : World} {R : HP}
set_option maxRecDepth 100000 in
set_option maxHeartbeats 4000000 in
theorem last_calls (D : Dk) (p fv : Value) (keep torn : Nat) (ht : torn ≤ 96) (hkeep : keep ≤ 9223372036854775807) (w : World) (s : St B w0 w (dk p fv D * R)) :
    Calls Try.prog 60 #[p, .int .i64 keep, .int .i64 torn] w (RetS B w0 (dk p fv ⟨lastK keep torn D.pend D.lasts D.pend.length, [], D.gone⟩ * R) (.tuple #[])) := by
  obtain ⟨bk, vl, vp, ls, ps, rfl, hok, h1, h2, s1⟩ := dk_open s
  obtain ⟨ap, cp, rfl, -, -, -, -⟩ := (dkO_p s1).rowSlice
  obtain ⟨L0, pend, gone⟩ := D
  simp only at h1 h2
  obtain ⟨m, hm⟩ : ∃ m, m = pend.length := ⟨_, rfl⟩
  have s1 : St B w0 w (dkO bk fv vl (.slice ap m cp) ls ps ⟨L0, pend, gone⟩ R) := by rw [hm]; exact s1
  have c2 := (dkO_d s1).cell 2
  simp at c2
  have hmm : m ≤ 1000000 := by rw [hm]; exact hok.pfew
  rw [← hm]
  have HOK := Lib.hid hok
  have H1 := Lib.hid h1
  have H2 := Lib.hid h2
  have HM := Lib.hid hm
  have S1 := Lib.hid s1
  clear s s1 hok h1 h2 hm
  go_enter Try.func60, Try.ntmps60
  go_wp2_with fail
  go_loopw [13] (fun i wr => ∃ k : Nat, k ≤ m ∧ i = .int .i64 k ∧ St B w0 wr (dkO bk fv vl (.slice ap m cp) ls ps ⟨lastK keep torn pend L0 k, pend, gone⟩ R)) (fun i _ => m - (intOf i).toNat)
  case atStart => exact ⟨0, Nat.zero_le _, rfl, S1.out⟩
  case round =>
    obtain ⟨k, hk, rfl, s2⟩ := hrel
    clear S1
    by_cases hlt : k < m
    · have hkp : k < pend.length := by rw [← HM.out]; exact hlt
      have hx : pend.getD k (0, []) = pend[k] := by simp [List.getD_eq_getElem?_getD, hkp]
      have hpx := HOK.out.plen _ (List.getElem_mem hkp)
      have hpsl : pend[k].1 < L0.length := HOK.out.pslot _ (List.getElem_mem hkp)
      have hll : (lastK keep torn pend L0 k).length = L0.length := lastK_len _ _ _ _ _
      have h96 := lastK_96 (keep := keep) (L := L0) ht HOK.out.plen HOK.out.pslot HOK.out.len k (Nat.le_of_lt hkp)
      have hpb := dkO_pb s2 H2.out k hkp
      have hfl := flat_at pend ps k H2.out hkp
      obtain ⟨g, c', e, -, -, -, hcell⟩ := (dkO_p s2).rowCells (by show 0 < pend.length; omega)
      obtain ⟨rfl, rfl⟩ : ap = some ⟨g, 0, none⟩ ∧ cp = c' := by simp at e; exact ⟨e.1, e.2.2⟩
      have q0 : wr.cell? ⟨g, k * 2, none⟩ = some (.int .i64 ((pend.getD k (0, [])).1 : Int)) := (hcell (k * 2) (by show k * 2 < pend.length * 2; omega)).trans hfl.1
      have q1 : wr.cell? ⟨g, k * 2 + 1, none⟩ = ps[k]? := (hcell (k * 2 + 1) (by show k * 2 + 1 < pend.length * 2; omega)).trans hfl.2
      rw [hpb.2] at q1
      rw [hx] at q0
      obtain ⟨a, n, c, hval⟩ : ∃ a n c, (wrOf pend ps k).val = .slice a n c := ⟨_, _, _, rfl⟩
      have hb0 := hpb.1
      rw [hval] at q1 hb0
      obtain rfl : n = 96 := by have := hb0.rd.1; simp only at this; omega
      have hb : BS wr (.slice a 96 c) (pend[k]).2 := hb0
      clear hb0
      generalize hsl : pend[k].1 = sl at q0 hpsl
      generalize hdt : pend[k].2 = data at hb hpx
      have hHX : pend.getD k (0, []) = (sl, data) := by rw [hx, ← hsl, ← hdt]
      have hbs : ∀ (w' : World) (R' : HP) (L' : List (List UInt8)) (vl' : Value), St B w0 w' (dkO bk fv vl' (.slice (some ⟨g, 0, none⟩) m cp) ls ps ⟨L', pend, gone⟩ R') → BS w' (.slice a 96 c) data := fun w' R' L' vl' s => by
        have q := (dkO_pb s H2.out k hkp).1
        rw [hval] at q
        rw [← hdt]
        exact q
      have HBS := Lib.hid hbs
      clear hbs
      generalize hLK : lastK keep torn pend L0 k = L at s2 hll h96
      have hsL : sl < L.length := by omega
      obtain ⟨gl, cl, gd, cd, -, hvl, -, hlv, -, -⟩ := last_focus s2 (by rw [hll]; exact H1.out) sl hsL (h96 _ (List.getElem_mem hsL))
      obtain ⟨nl, hnl⟩ : ∃ nl, nl = L.length := ⟨_, rfl⟩
      rw [← hnl] at hvl
      subst hvl
      have hslN : sl < nl := by omega
      have hnl64 : nl ≤ 64 := by have := HOK.out.few; simp only at this; omega
      have HLL := Lib.hid hnl.symm
      have HLV := Lib.hid hlv
      have HX := Lib.hid hHX
      have HLK := Lib.hid hLK
      have HB := Lib.hid hb
      have H96 := Lib.hid h96
      have HSL := Lib.hid hsL
      have HPX := Lib.hid hpx
      have HL1 := Lib.hid (show ls.length = L.length by rw [hll]; exact H1.out)
      have S := Lib.hid s2
      have c0 := q0
      have c1 := q1
      clear s2 hkp hx hpx hpsl hll h96 hpb hfl hcell q0 q1 hval hb hsl hdt hHX hLK hsL hlv hnl c2 e
      by_cases hkk : k < keep
      · have hki : (k : Int) < keep := by omega
        go_wp2_with fail
        have c2 := trivial
        have s7 := dkO_x (S.out.alloc (.cells #[.int .i64 (sl : Int), .slice a 96 c] 92))
        generalize wr.alloc _ = w7 at s7 ⊢
        generalize wr.heap.size = g2 at s7 ⊢
        have hcl : ∀ w' L', St B w0 w' (dkO bk fv (.slice (some ⟨gl, 0, none⟩) nl cl) (.slice (some ⟨g, 0, none⟩) m cp) ls ps ⟨L', pend, gone⟩ (pts g2 (.cells #[.int .i64 (sl : Int), .slice a 96 c] 92) * R)) → L'.length = nl → w'.cell? ⟨bk, 1, none⟩ = some (.slice (some ⟨gl, 0, none⟩) nl cl) ∧ w'.cell? ⟨g2, 0, none⟩ = some (.int .i64 (sl : Int)) ∧ w'.cell? ⟨g2, 1, none⟩ = some (.slice a 96 c) ∧ w'.cell? ⟨gl, sl, none⟩ = some (.slice (some ⟨gd, 0, none⟩) 96 cd) := fun w' L' s hL => by
          refine ⟨(dkO_d s).cell 1, (dkO_y s).cell 0, (dkO_y s).cell 1, ?_⟩
          obtain ⟨g', c', e, _, _, _, h⟩ := (dkO_l s).rowCells (by show 0 < L'.length; omega)
          cases e
          rw [h sl (by show sl < L'.length * 1; omega)]
          exact HLV.out
        have HCL := Lib.hid hcl
        have S7 := Lib.hid s7
        clear s7 hcl S c0 c1 c2
        refine wp_region_rx (fun j w => St B w0 w (dkO bk fv (.slice (some ⟨gl, 0, none⟩) nl cl) (.slice (some ⟨g, 0, none⟩) m cp) ls ps ⟨if j = 0 then L else L.set sl data, pend, gone⟩ (pts g2 (.cells #[.int .i64 (sl : Int), .slice a 96 c] 92) * R))) [10] mixed (by kernel_rfl) (by kernel_rfl) S7.out.drew ?_
        have cl0 : ∀ (j : Nat) (w' : World), St B w0 w' (dkO bk fv (.slice (some ⟨gl, 0, none⟩) nl cl) (.slice (some ⟨g, 0, none⟩) m cp) ls ps ⟨if j = 0 then L else L.set sl data, pend, gone⟩ (pts g2 (.cells #[.int .i64 (sl : Int), .slice a 96 c] 92) * R)) → w'.cell? ⟨bk, 1, none⟩ = some (.slice (some ⟨gl, 0, none⟩) nl cl) ∧ w'.cell? ⟨g2, 0, none⟩ = some (.int .i64 (sl : Int)) ∧ w'.cell? ⟨g2, 1, none⟩ = some (.slice a 96 c) ∧ w'.cell? ⟨gl, sl, none⟩ = some (.slice (some ⟨gd, 0, none⟩) 96 cd) := fun j w' s => HCL.out w' _ s (by split <;> simp [HLL.out])
        have cpy : ∀ w', St B w0 w' (dkO bk fv (.slice (some ⟨gl, 0, none⟩) nl cl) (.slice (some ⟨g, 0, none⟩) m cp) ls ps ⟨L, pend, gone⟩ (pts g2 (.cells #[.int .i64 (sl : Int), .slice a 96 c] 92) * R)) → ∃ w2, (Builtin.copy_ #[25, 25] 3 #[.slice (some ⟨gd, 0, none⟩) 96 cd, .slice a 96 c]).run Try.prog w' = .ok (.int .i64 96) w2 ∧ St B w0 w2 (dkO bk fv (.slice (some ⟨gl, 0, none⟩) nl cl) (.slice (some ⟨g, 0, none⟩) m cp) ls ps ⟨L.set sl data, pend, gone⟩ (pts g2 (.cells #[.int .i64 (sl : Int), .slice a 96 c] 92) * R)) := fun w' s => by
          obtain ⟨w2, r1, r2⟩ := copy_last s HL1.out sl HSL.out (H96.out _ (List.getElem_mem HSL.out)) HLV.out (HBS.out _ _ _ _ s) (by rw [HPX.out]; exact Nat.le_refl _)
          have e : data ++ (L[sl]'(HSL.out)).drop data.length = data := by rw [List.drop_of_length_le (by rw [HPX.out, H96.out _ (List.getElem_mem HSL.out)]; exact Nat.le_refl _), List.append_nil]
          rw [e] at r2
          exact ⟨w2, r1, r2⟩
        refine RXl.exact (.pointer (some ⟨bk, 0, none⟩)) rfl rfl rfl rfl rfl (fun _ _ _ _ _ => rfl) ?_
        refine RXl.exact (.pointer (some ⟨bk, 0, none⟩)) rfl rfl rfl rfl rfl (fun j τ w' hj hJ => by simp [rho, upd, Spec.val, execOp, go_sem]) ?_
        refine RXl.exact (.pointer (some ⟨bk, 1, none⟩)) rfl rfl rfl rfl rfl (fun j τ w' hj hJ => by simp [rho, upd, Spec.val, execOp, go_sem]) ?_
        refine RXl.exactB 0 10 rfl (by kernel_rfl) (.slice (some ⟨gl, 0, none⟩) nl cl) rfl rfl rfl rfl rfl (fun j τ w' hj hJ => by have c := (cl0 j w' hJ).1; simp [rho, upd, Spec.val, execOp, go_sem, c]) ?_
        refine RXl.exact (.pointer (some ⟨g2, 0, none⟩)) rfl rfl rfl rfl rfl (fun j τ w' hj hJ => by simp [rho, upd, Spec.val, execOp, go_sem]) ?_
        refine RXl.exactB 0 10 rfl (by kernel_rfl) (.int .i64 sl) rfl rfl rfl rfl rfl (fun j τ w' hj hJ => by have c := (cl0 j w' hJ).2.1; simp [rho, upd, Spec.val, execOp, go_sem, c]) ?_
        refine RXl.exact (.pointer (some ⟨gl, sl, none⟩)) rfl rfl rfl rfl rfl (fun j τ w' hj hJ => by simp [rho, upd, Spec.val, execOp, go_sem, hslN]) ?_
        refine RXl.exactB 0 10 rfl (by kernel_rfl) (.slice (some ⟨gd, 0, none⟩) 96 cd) rfl rfl rfl rfl rfl (fun j τ w' hj hJ => by have c := (cl0 j w' hJ).2.2.2; simp [rho, upd, Spec.val, execOp, go_sem, c]) ?_
        refine RXl.exact (.pointer (some ⟨g2, 1, none⟩)) rfl rfl rfl rfl rfl (fun j τ w' hj hJ => by simp [rho, upd, Spec.val, execOp, go_sem]) ?_
        refine RXl.exactB 0 10 rfl (by kernel_rfl) (.slice a 96 c) rfl rfl rfl rfl rfl (fun j τ w' hj hJ => by have c := (cl0 j w' hJ).2.2.1; simp [rho, upd, Spec.val, execOp, go_sem, c]) ?_
        refine RXl.effk 0 (.int .i64 96) rfl rfl rfl rfl rfl (fun w' hJ => (let ⟨w2, r1, r2⟩ := cpy w' hJ; ⟨w2, exec_copy rfl r1, r2⟩)) ?_
        refine RXl.nilx _ (Agr.upd _ _ (Agr.upd _ _ (Agr.upd _ _ (Agr.upd _ _ (Agr.upd _ _ (Agr.upd _ _ (Agr.upd _ _ (Agr.upd _ _ (Agr.upd _ _ (Agr.upd _ _ (Agr.upd _ _ (Agr.base _)))))))))))) fun w9 hJ => ?_
        obtain ⟨_, hJ⟩ := hJ
        simp only [Act.put, List.setIfInBounds_toArray, List.set_cons_succ, List.set_cons_zero]
        have s9 : St B w0 w9 (dkO bk fv (.slice (some ⟨gl, 0, none⟩) nl cl) (.slice (some ⟨g, 0, none⟩) m cp) ls ps ⟨L.set sl data, pend, gone⟩ (pts g2 (.cells #[.int .i64 (sl : Int), .slice a 96 c] 92) * R)) := hJ
        have S9 := Lib.hid (dkO_y s9).right
        clear hJ s9 cl0 HCL S7 cpy
        go_wp2_with fail
        go_roundw
        case rel => exact ⟨k + 1, by omega, by go_num, by
          have e : lastK keep torn pend L0 (k + 1) = L.set sl data := by unfold lastK; rw [HLK.out, HX.out]; unfold step; rw [if_pos hkk]
          rw [e]; exact S9.out⟩
        case measure => simp [intOf]; omega
      · by_cases hke : k = keep
        · subst hke
          clear hkk
          have hir : ¬ (k : Int) < (k : Int) := by omega
          have htk : (data.take torn).length = torn := by rw [List.length_take, HPX.out]; omega
          have hnew : data.take torn ++ (L[sl]'(HSL.out)).drop (data.take torn).length = data.take torn ++ (L.getD sl []).drop torn := by
            rw [htk]; simp [List.getD_eq_getElem?_getD, List.getElem?_eq_getElem HSL.out]
          have HTK := Lib.hid htk
          have HNW := Lib.hid hnew
          clear htk hnew
          obtain ⟨new, hnew⟩ : ∃ new, new = data.take torn ++ (L.getD sl []).drop torn := ⟨_, rfl⟩
          have HN2 := Lib.hid hnew
          clear hnew
          go_wp2_with fail
          have c2 := trivial
          have s7 := dkO_x (S.out.alloc (.cells #[.int .i64 (sl : Int), .slice a 96 c] 92))
          generalize wr.alloc _ = w7 at s7 ⊢
          generalize wr.heap.size = g2 at s7 ⊢
          have hcl : ∀ w' L', St B w0 w' (dkO bk fv (.slice (some ⟨gl, 0, none⟩) nl cl) (.slice (some ⟨g, 0, none⟩) m cp) ls ps ⟨L', pend, gone⟩ (pts g2 (.cells #[.int .i64 (sl : Int), .slice a 96 c] 92) * R)) → L'.length = nl → w'.cell? ⟨bk, 1, none⟩ = some (.slice (some ⟨gl, 0, none⟩) nl cl) ∧ w'.cell? ⟨g2, 0, none⟩ = some (.int .i64 (sl : Int)) ∧ w'.cell? ⟨g2, 1, none⟩ = some (.slice a 96 c) ∧ w'.cell? ⟨gl, sl, none⟩ = some (.slice (some ⟨gd, 0, none⟩) 96 cd) := fun w' L' s hL => by
            refine ⟨(dkO_d s).cell 1, (dkO_y s).cell 0, (dkO_y s).cell 1, ?_⟩
            obtain ⟨g', c', e, _, _, _, h⟩ := (dkO_l s).rowCells (by show 0 < L'.length; omega)
            cases e
            rw [h sl (by show sl < L'.length * 1; omega)]
            exact HLV.out
          have HCL := Lib.hid hcl
          have S7 := Lib.hid s7
          clear s7 hcl S c0 c1 c2
          refine wp_region_rx (fun j w => St B w0 w (dkO bk fv (.slice (some ⟨gl, 0, none⟩) nl cl) (.slice (some ⟨g, 0, none⟩) m cp) ls ps ⟨if j = 0 then L else L.set sl new, pend, gone⟩ (pts g2 (.cells #[.int .i64 (sl : Int), .slice a 96 c] 92) * R))) [12] mixed (by kernel_rfl) (by kernel_rfl) S7.out.drew ?_
          have cl0 : ∀ (j : Nat) (w' : World), St B w0 w' (dkO bk fv (.slice (some ⟨gl, 0, none⟩) nl cl) (.slice (some ⟨g, 0, none⟩) m cp) ls ps ⟨if j = 0 then L else L.set sl new, pend, gone⟩ (pts g2 (.cells #[.int .i64 (sl : Int), .slice a 96 c] 92) * R)) → w'.cell? ⟨bk, 1, none⟩ = some (.slice (some ⟨gl, 0, none⟩) nl cl) ∧ w'.cell? ⟨g2, 0, none⟩ = some (.int .i64 (sl : Int)) ∧ w'.cell? ⟨g2, 1, none⟩ = some (.slice a 96 c) ∧ w'.cell? ⟨gl, sl, none⟩ = some (.slice (some ⟨gd, 0, none⟩) 96 cd) := fun j w' s => HCL.out w' _ s (by split <;> simp [HLL.out])
          have cpy : ∀ w', St B w0 w' (dkO bk fv (.slice (some ⟨gl, 0, none⟩) nl cl) (.slice (some ⟨g, 0, none⟩) m cp) ls ps ⟨L, pend, gone⟩ (pts g2 (.cells #[.int .i64 (sl : Int), .slice a 96 c] 92) * R)) → ∃ w2, (Builtin.copy_ #[25, 25] 3 #[.slice (some ⟨gd, 0, none⟩) 96 cd, .slice a torn c]).run Try.prog w' = .ok (.int .i64 torn) w2 ∧ St B w0 w2 (dkO bk fv (.slice (some ⟨gl, 0, none⟩) nl cl) (.slice (some ⟨g, 0, none⟩) m cp) ls ps ⟨L.set sl new, pend, gone⟩ (pts g2 (.cells #[.int .i64 (sl : Int), .slice a 96 c] 92) * R)) := fun w' s => by
            have hb2 : BS w' (.slice a torn c) (data.take torn) := by
              have q := (HBS.out _ _ _ _ s).sub 0 torn (by omega) (by rw [HPX.out]; exact ht)
              simpa [subA, Addr.add] using q
            obtain ⟨w2, r1, r2⟩ := copy_last s HL1.out sl HSL.out (H96.out _ (List.getElem_mem HSL.out)) HLV.out hb2 (by rw [HTK.out]; exact ht)
            rw [HNW.out, ← HN2.out] at r2
            exact ⟨w2, r1, r2⟩
          refine RXl.exact (.pointer (some ⟨bk, 0, none⟩)) rfl rfl rfl rfl rfl (fun _ _ _ _ _ => rfl) ?_
          refine RXl.exact (.pointer (some ⟨bk, 0, none⟩)) rfl rfl rfl rfl rfl (fun j τ w' hj hJ => by simp [rho, upd, Spec.val, execOp, go_sem]) ?_
          refine RXl.exact (.pointer (some ⟨bk, 1, none⟩)) rfl rfl rfl rfl rfl (fun j τ w' hj hJ => by simp [rho, upd, Spec.val, execOp, go_sem]) ?_
          refine RXl.exactB 0 12 rfl (by kernel_rfl) (.slice (some ⟨gl, 0, none⟩) nl cl) rfl rfl rfl rfl rfl (fun j τ w' hj hJ => by have c := (cl0 j w' hJ).1; simp [rho, upd, Spec.val, execOp, go_sem, c]) ?_
          refine RXl.exact (.pointer (some ⟨g2, 0, none⟩)) rfl rfl rfl rfl rfl (fun j τ w' hj hJ => by simp [rho, upd, Spec.val, execOp, go_sem]) ?_
          refine RXl.exactB 0 12 rfl (by kernel_rfl) (.int .i64 sl) rfl rfl rfl rfl rfl (fun j τ w' hj hJ => by have c := (cl0 j w' hJ).2.1; simp [rho, upd, Spec.val, execOp, go_sem, c]) ?_
          refine RXl.exact (.pointer (some ⟨gl, sl, none⟩)) rfl rfl rfl rfl rfl (fun j τ w' hj hJ => by simp [rho, upd, Spec.val, execOp, go_sem, hslN]) ?_
          refine RXl.exactB 0 12 rfl (by kernel_rfl) (.slice (some ⟨gd, 0, none⟩) 96 cd) rfl rfl rfl rfl rfl (fun j τ w' hj hJ => by have c := (cl0 j w' hJ).2.2.2; simp [rho, upd, Spec.val, execOp, go_sem, c]) ?_
          refine RXl.exact (.pointer (some ⟨g2, 1, none⟩)) rfl rfl rfl rfl rfl (fun j τ w' hj hJ => by simp [rho, upd, Spec.val, execOp, go_sem]) ?_
          refine RXl.exactB 0 12 rfl (by kernel_rfl) (.slice a 96 c) rfl rfl rfl rfl rfl (fun j τ w' hj hJ => by have c := (cl0 j w' hJ).2.2.1; simp [rho, upd, Spec.val, execOp, go_sem, c]) ?_
          refine RXl.exact (.int .i64 torn) rfl rfl rfl rfl rfl (fun _ _ _ _ _ => rfl) ?_
          refine RXl.exact (.slice a torn c) rfl rfl rfl rfl rfl (fun j τ w' hj hJ => exec_slice rfl (by have q := run_slice_sl tB w' a 96 c none (some (.int .i64 torn)) 0 torn (.inl ⟨rfl, rfl⟩) (.inr ⟨_, rfl⟩) (by omega) (by have := HB.out.rd.2.1; have := HPX.out; omega); refine Eq.trans q ?_; cases a <;> simp [Addr.add])) ?_
          refine RXl.effk 0 (.int .i64 torn) rfl rfl rfl rfl rfl (fun w' hJ => (let ⟨w2, r1, r2⟩ := cpy w' hJ; ⟨w2, exec_copy rfl r1, r2⟩)) ?_
          refine RXl.nilx _ (Agr.upd _ _ (Agr.upd _ _ (Agr.upd _ _ (Agr.upd _ _ (Agr.upd _ _ (Agr.upd _ _ (Agr.upd _ _ (Agr.upd _ _ (Agr.upd _ _ (Agr.upd _ _ (Agr.upd _ _ (Agr.upd _ _ (Agr.upd _ _ (Agr.base _)))))))))))))) fun w9 hJ => ?_
          obtain ⟨_, hJ⟩ := hJ
          simp only [Act.put, List.setIfInBounds_toArray, List.set_cons_succ, List.set_cons_zero]
          have s9 : St B w0 w9 (dkO bk fv (.slice (some ⟨gl, 0, none⟩) nl cl) (.slice (some ⟨g, 0, none⟩) m cp) ls ps ⟨L.set sl new, pend, gone⟩ (pts g2 (.cells #[.int .i64 (sl : Int), .slice a 96 c] 92) * R)) := hJ
          have S9 := Lib.hid (dkO_y s9).right
          clear hJ s9 cl0 HCL S7 cpy
          go_wp2_with fail
          go_roundw
          case rel => exact ⟨k + 1, by omega, by go_num, by
            have e : lastK k torn pend L0 (k + 1) = L.set sl new := by unfold lastK; rw [HLK.out, HX.out]; unfold step; rw [if_neg (by omega), if_pos rfl, HN2.out]
            rw [e]; exact S9.out⟩
          case measure => simp [intOf]; omega
        · have hi1 : (keep : Int) < k := by omega
          have hi2 : ((k : Int) == (keep : Int)) = false := by simp; omega
          have hi3 : ¬ (k : Int) < (keep : Int) := by omega
          go_wp2_with fail
          have S9 := Lib.hid (S.out.alloc (.cells #[.int .i64 (sl : Int), .slice a 96 c] 92)).right
          go_roundw
          case rel => exact ⟨k + 1, by omega, by go_num, by
            have e : lastK keep torn pend L0 (k + 1) = L := by unfold lastK; rw [HLK.out, HX.out]; unfold step; rw [if_neg hkk, if_neg hke]
            rw [e]; exact S9.out⟩
          case measure => simp [intOf]; omega
    · obtain rfl : k = m := by omega
      have d0 := (dkO_d s2).cell 2
      have f0 := (dkO_d s2).free 2
      simp at d0
      have S2 := Lib.hid s2
      clear s2 c2
      go_wp2_with fail
      go_end0
      have hok := HOK.out
      have q := (dkO_d S2.out).set 2 (.slice none 0 0)
      have q2 : St B w0 _ (pts bk (.cells #[fv, vl, .slice none 0 0, .bool gone] 90 (0, 0)) * (row 25 1 vl (lastK keep torn pend L0 k).length ls * (rows 5 ls (lastK keep torn pend L0 k) * (row 92 2 (.slice ap k cp) pend.length (flat pend ps) * (rows 5 ps (pend.map (·.2)) * R))))) := q
      have q3 := (q2.eq (Q := row 92 2 (.slice ap k cp) pend.length (flat pend ps) * (rows 5 ps (pend.map (·.2)) * (pts bk (.cells #[fv, vl, .slice none 0 0, .bool gone] 90 (0, 0)) * (row 25 1 vl (lastK keep torn pend L0 k).length ls * (rows 5 ls (lastK keep torn pend L0 k) * R))))) (by ac_rfl)).right.right
      have q4 := q3.rowNil 92 2
      refine ⟨rfl, dk_mk (vl := vl) (vp := .slice none 0 0) (ps := []) (D := ⟨lastK keep torn pend L0 k, [], gone⟩) ⟨by rw [lastK_len]; exact hok.few, lastK_96 ht hok.plen hok.pslot hok.len k (by rw [HM.out]; exact Nat.le_refl _), by simp, by simp, by simp⟩ (by rw [lastK_len]; exact H1.out) rfl ?_⟩
      unfold dkO
      show St B w0 _ (_ * (_ * (_ * (row _ 2 _ 0 [] * (emp * R)))))
      rw [emp_sep]
      exact q4.eq (by ac_rfl)
/-- Sync. -/
def dSync (F : Option Fu) (D : Dk) : Int × Dk := if D.gone = true then (5, D) else if fdead F = true then (4, D) else (0, ⟨lastK D.pend.length 0 D.pend D.lasts D.pend.length, [], D.gone⟩)
set_option maxHeartbeats 1000000 in
theorem sync_calls (F : Option Fu) (D : Dk) (p : Value) (x : Option Addr) (w : World) (s : St B w0 w (dk p (.pointer x) D * (fz (.pointer x) F * R))) :
    Calls Try.prog 36 #[p] w (RetS B w0 (dk p (.pointer x) (dSync F D).2 * (fz (.pointer x) F * R)) (.int .i64 (dSync F D).1)) := by
  obtain ⟨bk, vl, vp, ls, ps, rfl, hok, h1, h2, s1⟩ := dk_open s
  have c0 := (dkO_d s1).cell 0
  have c3 := (dkO_d s1).cell 3
  obtain ⟨L, pend, gone⟩ := D
  simp at c0 c3
  have hpf := hok.pfew
  simp only at hpf
  have S := Lib.hid s
  clear s
  clear s1 hok h1 h2
  cases gone with
  | true =>
    go_enter Try.func36, Try.ntmps36
    go_wp2_with fail
    go_ret
    exact ⟨rfl, S.out⟩
  | false =>
    have q := dead_calls F (.pointer x) w (R := dk (.pointer (some ⟨bk, 0, none⟩)) (.pointer x) ⟨L, pend, false⟩ * R) (S.out.eq (by ac_rfl))
    by_cases hd : fdead F = true
    · rw [hd] at q
      have e : dSync F ⟨L, pend, false⟩ = (4, ⟨L, pend, false⟩) := by simp [dSync, hd]
      rw [e]
      have Q := Lib.hid q
      clear q
      clear e hd
      go_enter Try.func36, Try.ntmps36
      go_wp2_with fail
      refine Q.out.mono ?_
      rintro e w1 ⟨rfl, s1⟩
      have S1 := Lib.hid s1
      clear s1
      clear c0 c3 Q S
      go_wp2_with fail
      go_ret
      exact ⟨rfl, S1.out.eq (by ac_rfl)⟩
    · have hd' : fdead F = false := by simpa using hd
      rw [hd'] at q
      have e : dSync F ⟨L, pend, false⟩ = (0, ⟨lastK pend.length 0 pend L pend.length, [], false⟩) := by simp [dSync, hd']
      rw [e]
      have Q := Lib.hid q
      clear q
      clear e hd hd'
      go_enter Try.func36, Try.ntmps36
      go_wp2_with fail
      refine Q.out.mono ?_
      rintro e w1 ⟨rfl, s1⟩
      have s2 := s1.eq (Q := dk (.pointer (some ⟨bk, 0, none⟩)) (.pointer x) ⟨L, pend, false⟩ * (fz (.pointer x) F * R)) (by ac_rfl)
      obtain ⟨bk', vl', vp', ls', ps', hp, _, _, _, s3⟩ := dk_open s2
      obtain rfl : bk = bk' := by simpa using hp
      obtain ⟨ap, cp, rfl, -⟩ := (dkO_p s3).rowSlice
      have d2 := (dkO_d s3).cell 2
      simp at d2
      have S2 := Lib.hid s2
      clear c0 c3 Q S s1 s2 s3 hp
      go_wp2_with fail
      refine (last_calls ⟨L, pend, false⟩ _ _ pend.length 0 (by omega) (by omega) w1 S2.out).mono ?_
      rintro e w2 ⟨rfl, s4⟩
      have S4 := Lib.hid s4
      clear s4
      clear S2 d2
      go_wp2_with fail
      go_ret
      exact ⟨rfl, S4.out⟩
/-- Crash. -/
def dCrash (D : Dk) (keep torn : Int) : Dk := ⟨lastK keep.toNat (min torn.toNat 96) D.pend D.lasts D.pend.length, [], D.gone⟩
set_option maxHeartbeats 1000000 in
theorem crash_calls (D : Dk) (p fv : Value) (keep torn : Int) (hk : keep ≤ 9223372036854775807) (ht : torn ≤ 9223372036854775807) (w : World) (s : St B w0 w (dk p fv D * R)) :
    Calls Try.prog 37 #[p, .int .i64 keep, .int .i64 torn] w (RetS B w0 (dk p fv (dCrash D keep torn) * R) (.tuple #[])) := by
  have m1 := fun w : World => run_max2 (P := Try.prog) w .i64 #[3, 3] 3 keep 0
  have m2 := fun w : World => run_max2 (P := Try.prog) w .i64 #[3, 3] 3 torn 0
  have m3 := fun w : World => run_min2 (P := Try.prog) w .i64 #[3, 3] 3 (max torn 0) 96
  have q := last_calls D p fv keep.toNat (min torn.toNat 96) (by omega) (by omega) w s
  rw [show ((keep.toNat : Nat) : Int) = max keep 0 by omega, show ((min torn.toNat 96 : Nat) : Int) = min (max torn 0) 96 by omega] at q
  have Q := Lib.hid q
  clear q
  clear s
  go_enter Try.func37, Try.ntmps37
  go_wp2_with fail
  refine Q.out.mono ?_
  rintro e w1 ⟨rfl, s1⟩
  have S1 := Lib.hid s1
  clear s1
  go_wp2_with fail
  go_end0
  exact ⟨rfl, S1.out⟩
end
end Go.Proofs.Yteikpbangjpilaa.DskW
