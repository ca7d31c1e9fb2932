/- Package rec, walked: how bytes are read from the front. No condition. -/
import Derived.Test.YtnfkcmcchkcflaaRcW4
import Derived.Test.YtnfkcmcchkcflaaRd
import Derived.Laws.CopyRow
import Derived.Laws.IdiomCopy
set_option linter.unusedSimpArgs false
set_option linter.unusedVariables false
namespace Go.Proofs.Ytnfkcmcchkcflaa.RcW
open Go Go.RowKit Go.Proofs.Ytnfkcmcchkcflaa Go.Proofs.Ytnfkcmcchkcflaa.Sp Go.Proofs.Ytnfkcmcchkcflaa.Reg Go.Proofs.Ytnfkcmcchkcflaa.RcM Go.Proofs.Ytnfkcmcchkcflaa.SlW Go.Proofs.Ytnfkcmcchkcflaa.Rd
/-- copy of as many bytes as fit into an owned row of noughts. -/
theorem copy_min {P : Program} {dT sT ty e : TypeId} (hu : P.underlying dT = some (.slice e)) (hs : (P.info? e).map (·.size) = some 1) {B : Nat} {w0 w : World} {R : HP} {g n : Nat}
    (s : St B w0 w (row e 1 (.slice (some ⟨g, 0, none⟩) n n) n (bvs (List.replicate n 0)) * R)) (a : Option Addr) (c2 : Nat) (l : List UInt8) (hd : BS w (.slice a l.length c2) l) :
    ∃ w', (Builtin.copy_ #[dT, sT] ty #[.slice (some ⟨g, 0, none⟩) n n, .slice a l.length c2]).run P w = .ok (goInt ((min n l.length : Nat))) w' ∧
      St B w0 w' (row e 1 (.slice (some ⟨g, 0, none⟩) n n) n (bvs (ptk n l).1) * R) := by
  have hp : (ptk n l).1 = (l.take n) ++ (List.replicate n 0).drop (min n l.length) := by
    simp only [ptk, List.drop_replicate]
    congr 2
    omega
  have hml : (l.take n).length = min n l.length := List.length_take
  by_cases h0 : min n l.length = 0
  · have e0 : l.take n = [] := List.eq_nil_of_length_eq_zero (by omega)
    rw [h0]
    refine ⟨w, run_copy_none w dT sT ty e _ _ _ _ _ _ hu hs ((Nat.min_comm _ _).trans h0), ?_⟩
    rw [hp, e0, h0]
    simpa using s
  · obtain ⟨-, -, -, -, hr⟩ := hd.rd
    obtain ⟨b, off, rfl, hc⟩ := hr.at (by intro e; have := congrArg List.length e; rw [List.length_map, List.length_nil] at this; omega)
    obtain ⟨hl, h⟩ := s.rowOpen
    rcases h with ⟨e1, _, _⟩ | ⟨g', c', cur, e1, h3, h4, h5, h6, t⟩
    · cases e1
    cases e1
    rw [Nat.mul_one] at h5 h6
    have hrun := run_copy_row (P := P) w dT sT ty e g 0 n n ⟨b, off, none⟩ l.length c2 cur e (bvs (l.take n)) hu hs t.block (by rw [List.length_map, hml]; exact Nat.min_comm _ _) (fun j v hj => by
      rw [Addr.add_lit]
      refine hc j v ?_
      rw [← hj, bvs, bvs, List.getElem?_map, List.getElem?_map, List.getElem?_take, if_pos]
      have := (List.getElem?_eq_some_iff.1 hj).1
      rw [List.length_map, hml] at this
      omega) (by rw [List.length_map, hml]; omega) (bvs_one _)
    rw [List.length_map, hml] at hrun
    refine ⟨_, hrun, ?_⟩
    refine (t.setRow _).rowMk h3 h4 (by simp; omega) ?_
    rw [Nat.mul_one, hp]
    obtain ⟨D, hD⟩ : ∃ D, cur.toList = bvs (List.replicate n 0) ++ D := ⟨cur.toList.drop n, by rw [← h6]; exact (List.take_append_drop _ _).symm⟩
    show List.take n (cur.toList.take 0 ++ bvs (l.take n) ++ cur.toList.drop (0 + min n l.length)) = _
    have hz : (bvs (List.replicate n 0)).length = n := by simp [bvs]
    have q2 : (bvs (List.replicate n 0) ++ D).drop (min n l.length) = (bvs (List.replicate n 0)).drop (min n l.length) ++ D := List.drop_append_of_le_length (by omega)
    rw [hD, Nat.zero_add, q2, List.take_zero, List.nil_append, ← List.append_assoc]
    rw [List.take_left' (by rw [List.length_append, List.length_drop, hz, bvs, List.length_map, hml]; omega)]
    simp [bvs, List.map_drop]
section
variable {B : Nat} {w0 : World} {R : HP}
/-- A reader: the bytes that are left. -/
def rdr (p : Nat) (a : Option Addr) (c : Nat) (l : List UInt8) : HP := pts p (.cells #[.slice a l.length c] 70 (0, 0))
/-- A reader over bytes that can be read as long as R is owned. -/
def RdS (B : Nat) (w0 : World) (R : HP) (p : Nat) (l : List UInt8) (X : HP) (w : World) : Prop := ∃ a c, Reads B w0 R (.slice a l.length c) l ∧ St B w0 w (rdr p a c l * (X * R))
theorem reads_cut {a : Option Addr} {c k : Nat} {l : List UInt8} (h : Reads B w0 R (.slice a l.length c) l) (hk : k ≤ l.length) : Reads B w0 R (.slice (subA a c k 1) (l.drop k).length (c - k)) (l.drop k) := fun w H s => by
  have q := (h w H s).sub k l.length hk (Nat.le_refl _)
  rw [List.length_drop]
  have e : (l.drop k).take (l.length - k) = l.drop k := List.take_of_length_le (by rw [List.length_drop]; exact Nat.le_refl _)
  rw [e] at q
  exact q
theorem drop_min (l : List UInt8) (n : Nat) : l.drop (min n l.length) = l.drop n := by
  by_cases h : n ≤ l.length
  · rw [Nat.min_eq_left h]
  · rw [Nat.min_eq_right (by omega), List.drop_length, List.drop_eq_nil_of_le (by omega)]
/-- Where copy(out, r.b) and r.b = r.b[..:] stand. -/
def TJ (B : Nat) (w0 : World) (g n p : Nat) (a : Option Addr) (c : Nat) (l : List UInt8) (Y : HP) (j : Nat) (w : World) : Prop := match j with
  | 0 => St B w0 w (row 5 1 (.slice (some ⟨g, 0, none⟩) n n) n (bvs (List.replicate n 0)) * (rdr p a c l * Y))
  | 1 => St B w0 w (row 5 1 (.slice (some ⟨g, 0, none⟩) n n) n (bvs (ptk n l).1) * (rdr p a c l * Y))
  | _ => St B w0 w (row 5 1 (.slice (some ⟨g, 0, none⟩) n n) n (bvs (ptk n l).1) * (rdr p (subA a c (min n l.length) 1) (c - min n l.length) (l.drop (min n l.length)) * Y))
theorem TJ.st {g n p : Nat} {a : Option Addr} {c : Nat} {l : List UInt8} {Y : HP} : ∀ {j : Nat} {w : World}, j < 2 → TJ B w0 g n p a c l Y j w → ∃ Z, St B w0 w (rdr p a c l * (Z * Y))
  | 0, _, _, h => ⟨_, St.eq (sep_left_comm _ _ _) h⟩
  | 1, _, _, h => ⟨_, St.eq (sep_left_comm _ _ _) h⟩
  | j + 2, _, hj, _ => absurd hj (by omega)
set_option maxRecDepth 100000 in
set_option maxHeartbeats 4000000 in
theorem take_calls (p n : Nat) (l : List UInt8) (hn : n ≤ 1000) (X : HP) (w : World) (s : RdS B w0 R p l X w) :
    Calls Try.prog 48 #[.pointer (some ⟨p, 0, none⟩), .int .i64 n] w fun e w' => ∃ g, e = .returned (.slice (some ⟨g, 0, none⟩) n n) ∧ RdS B w0 R p (l.drop n) (row 5 1 (.slice (some ⟨g, 0, none⟩) n n) n (bvs (ptk n l).1) * X) w' := by
  obtain ⟨a, c, hr, s1⟩ := s
  have HR := Lib.hid hr
  obtain ⟨-, hc, hc2, -, -⟩ := (hr _ _ ((s1.eq (sep_assoc _ _ _).symm))).rd
  unfold maxLen at hc2
  have S1 := Lib.hid s1
  clear s1 hr
  go_enter Try.func48, Try.ntmps48
  go_wp2_with (at_make; go_must (refine wpl_make1 rfl _ _ rfl tB rfl S1.out .i64 .i64 n n rfl rfl (Nat.le_refl _) (by unfold maxLen; omega) (by omega) ?_); intro g w2 s2; rw [bvs_zeros] at s2; have S2 := Lib.hid s2; clear s2)
  have hbs := fun (j : Nat) (w : World) (hj : j < 2) (h : TJ B w0 g n p a c l (X * R) j w) => (show BS w (.slice a l.length c) l from by
    obtain ⟨Z, z⟩ := TJ.st hj h
    exact HR.out w (rdr p a c l * (Z * X)) (z.eq (by ac_rfl)))
  have hcp := fun (w : World) (h : TJ B w0 g n p a c l (X * R) 0 w) => copy_min (dT := 32) (sT := 32) (ty := 3) Try.underlying32 (by kernel_rfl) h a c l (hbs 0 w (by omega) h)
  have Hbs := Lib.hid hbs
  have Hcp := Lib.hid hcp
  clear hbs hcp
  refine wp_region_rx (TJ B w0 g n p a c l (X * R)) [10, 14] mixed (by kernel_rfl) (by kernel_rfl) S2.out.drew ?_
  refine RXl.exact (.pointer (some ⟨p, 0, none⟩)) rfl rfl rfl rfl rfl (fun _ _ _ _ _ => rfl) ?_
  refine RXl.exact (.pointer (some ⟨p, 0, none⟩)) rfl rfl rfl rfl rfl (fun _ _ _ _ _ => rfl) ?_
  refine RXl.exact (.pointer (some ⟨p, 0, none⟩)) rfl rfl rfl rfl rfl (fun j τ w' hj hJ => by simp [rho, upd, Spec.val, execOp, go_sem]) ?_
  refine RXl.exact (.pointer (some ⟨p, 0, none⟩)) rfl rfl rfl rfl rfl (fun j τ w' hj hJ => by simp [rho, upd, Spec.val, execOp, go_sem]) ?_
  refine RXl.exactB 1 14 rfl (by kernel_rfl) (.slice a l.length c) rfl rfl rfl rfl rfl (fun j τ w' hj hJ => by obtain ⟨Z, z⟩ := TJ.st (by omega) hJ; have c := z.cell 0; simp at c; simp [rho, upd, Spec.val, execOp, go_sem, c]) ?_
  refine RXl.exact (.slice (some ⟨g, 0, none⟩) n n) rfl rfl rfl rfl rfl (fun _ _ _ _ _ => rfl) ?_
  refine RXl.exact (.pointer (some ⟨p, 0, none⟩)) rfl rfl rfl rfl rfl (fun _ _ _ _ _ => rfl) ?_
  refine RXl.exact (.pointer (some ⟨p, 0, none⟩)) rfl rfl rfl rfl rfl (fun j τ w' hj hJ => by simp [rho, upd, Spec.val, execOp, go_sem]) ?_
  refine RXl.exact (.pointer (some ⟨p, 0, none⟩)) rfl rfl rfl rfl rfl (fun j τ w' hj hJ => by simp [rho, upd, Spec.val, execOp, go_sem]) ?_
  refine RXl.exactB 0 10 rfl (by kernel_rfl) (.slice a l.length c) rfl rfl rfl rfl rfl (fun j τ w' hj hJ => by obtain ⟨Z, z⟩ := TJ.st (by omega) hJ; have c := z.cell 0; simp at c; simp [rho, upd, Spec.val, execOp, go_sem, c]) ?_
  refine RXl.effk 0 (.int .i64 ((min n l.length : Nat) : Int)) rfl rfl rfl rfl rfl (fun w' hJ => (let ⟨w2, r1, r2⟩ := Hcp.out w' hJ; ⟨w2, exec_copy rfl r1, r2⟩)) ?_
  refine RXl.exact (.slice (subA a c (min n l.length) 1) (l.length - min n l.length) (c - min n l.length)) rfl rfl rfl rfl rfl (fun j τ w' hj hJ => exec_slice rfl (run_slice_sl tB w' a l.length c (some (.int .i64 ((min n l.length : Nat) : Int))) none (min n l.length) l.length (.inr ⟨_, rfl⟩) (.inl ⟨rfl, rfl⟩) (Nat.min_le_right _ _) hc)) ?_
  refine RXl.exact (.pointer (some ⟨p, 0, none⟩)) rfl rfl rfl rfl rfl (fun j τ w' hj hJ => by simp [rho, upd, Spec.val, execOp, go_sem]) ?_
  refine RXl.exact (.pointer (some ⟨p, 0, none⟩)) rfl rfl rfl rfl rfl (fun j τ w' hj hJ => by simp [rho, upd, Spec.val, execOp, go_sem]) ?_
  refine RXl.effj 1 rfl rfl rfl rfl rfl rfl (fun w' hJ => (let z := (St.eq (sep_left_comm _ _ _) hJ); ⟨_, exec_store rfl rfl rfl rfl (by kernel_rfl) (z.cell 0) (z.free 0), by have q := (z.set 0 (.slice (subA a c (min n l.length) 1) (l.length - min n l.length) (c - min n l.length))).eq (sep_left_comm _ _ _); simp only [TJ, rdr, List.length_drop]; exact q⟩)) ?_
  refine RXl.nilx _ (Agr.upd _ _ (Agr.upd _ _ (Agr.upd _ _ (Agr.upd _ _ (Agr.upd _ _ (Agr.upd _ _ (Agr.upd _ _ (Agr.upd _ _ (Agr.upd _ _ (Agr.upd _ _ (Agr.upd _ _ (Agr.upd _ _ (Agr.upd _ _ (Agr.upd _ _ (Agr.base _))))))))))))))) fun w3 hJ => ?_
  obtain ⟨_, hJ⟩ := hJ
  simp only [Act.put, List.setIfInBounds_toArray, List.set_cons_succ, List.set_cons_zero]
  have S3 := Lib.hid (show St B w0 w3 (row 5 1 (.slice (some ⟨g, 0, none⟩) n n) n (bvs (ptk n l).1) * (rdr p (subA a c (min n l.length) 1) (c - min n l.length) (l.drop (min n l.length)) * (X * R))) from hJ)
  clear hJ S2 S1
  have HQ := Lib.hid (reads_cut HR.out (Nat.min_le_right n l.length))
  go_wp2_with fail
  go_ret
  have s4 := S3.out
  have hq := HQ.out
  rw [drop_min] at s4 hq
  exact ⟨g, rfl, _, _, hq, s4.eq (by ac_rfl)⟩
set_option maxRecDepth 100000 in
set_option maxHeartbeats 4000000 in
theorem one_calls (p : Nat) (l : List UInt8) (X : HP) (w : World) (s : RdS B w0 R p l X w) :
    Calls Try.prog 37 #[.pointer (some ⟨p, 0, none⟩)] w fun e w' => e = .returned (.int .i64 (gNum ptk 1 l).1) ∧ RdS B w0 R p (l.drop 1) X w' := by
  have Q := Lib.hid (take_calls p 1 l (by omega) X w s)
  obtain ⟨x, hx⟩ : ∃ x, (ptk 1 l).1 = [x] := by
    cases l with
    | nil => exact ⟨0, rfl⟩
    | cons a l => exact ⟨a, by simp [ptk]⟩
  have hv : (gNum ptk 1 l).1 = (x.toNat : Int) := by simp [gNum, hx, pNum]
  have Hx := Lib.hid hx
  have Hv := Lib.hid hv
  clear hx hv
  clear s
  go_enter Try.func37, Try.ntmps37
  go_wp2_with fail
  refine Q.out.mono ?_
  rintro e w1 ⟨g, rfl, a, c, hr, s1⟩
  have s2 := s1.eq (Q := row 5 1 (.slice (some ⟨g, 0, none⟩) 1 1) 1 (bvs [x]) * (rdr p a c (l.drop 1) * (X * R))) (by rw [Hx.out]; ac_rfl)
  have c0 := s2.rowB'.2.2.2.2.2.1 0 (by simp)
  simp at c0
  have HR := Lib.hid hr
  have S2 := Lib.hid s2
  have hxi : ((x.toNat : Nat) : Int) < 256 := by have := x.toNat_lt; omega
  clear s1 s2 hr Q
  go_wp2_with fail
  go_ret
  rw [Hv.out]
  exact ⟨rfl, a, c, HR.out, S2.out.right⟩
theorem pNum_snoc (l : List UInt8) (x : UInt8) : pNum (l ++ [x]) = pNum l * 256 + x.toNat := by simp [pNum]
theorem pNum_lo : ∀ l : List UInt8, 0 ≤ pNum l := by
  intro l
  suffices h : ∀ (l : List UInt8) (n : Int), 0 ≤ n → 0 ≤ l.foldl (fun n c => n * 256 + (c.toNat : Int)) n from h l 0 (by omega)
  intro l
  induction l with
  | nil => intro n h; exact h
  | cons a l ih =>
    intro n h
    refine ih _ ?_
    show 0 ≤ n * 256 + (a.toNat : Int)
    omega
theorem or_byte (m y : Nat) (hm : m < 16777216) (hy : y < 256) : bits .or .i64 ((m : Int) * 256) (y : Int) = ((m * 256 + y : Nat) : Int) := by
  have e1 : (((m : Int) * 256) % ((2 ^ 64 : Nat) : Int)).toNat = 2 ^ 8 * m := by omega
  have e2 : ((y : Int) % ((2 ^ 64 : Nat) : Int)).toNat = y := by omega
  have key : (BitVec.ofInt 64 ((m : Int) * 256) ||| BitVec.ofInt 64 (y : Int)).toNat = m * 256 + y := by
    rw [BitVec.toNat_or, BitVec.toNat_ofInt, BitVec.toNat_ofInt, e1, e2, ← Nat.two_pow_add_eq_or_of_lt (by omega)]
    omega
  show IntKind.i64.wrap ((BitVec.ofInt 64 ((m : Int) * 256) ||| BitVec.ofInt 64 (y : Int)).toNat : Nat) = _
  rw [key, IntKind.wrap_i64]
  omega
/-- A number's value up to a byte. -/
def pN (l : List UInt8) (k : Nat) : Nat := (pNum (l.take k)).toNat
theorem pN_succ {l : List UInt8} {k : Nat} (h : k < l.length) : pN l (k + 1) = pN l k * 256 + l[k].toNat := by
  unfold pN
  rw [List.take_succ_eq_append_getElem h, pNum_snoc]
  have := pNum_lo (l.take k)
  omega
theorem pN_lt {l : List UInt8} : ∀ k, k ≤ 3 → k ≤ l.length → pN l k < 16777216
  | 0, _, _ => by simp [pN, pNum]
  | 1, _, h => by rw [pN_succ (by omega)]; simp [pN, pNum]; have := (l[0]'(by omega)).toNat_lt; omega
  | 2, _, h => by rw [pN_succ (by omega), pN_succ (by omega)]; simp [pN, pNum]; have := (l[0]'(by omega)).toNat_lt; have := (l[1]'(by omega)).toNat_lt; omega
  | 3, _, h => by rw [pN_succ (by omega), pN_succ (by omega), pN_succ (by omega)]; simp [pN, pNum]; have := (l[0]'(by omega)).toNat_lt; have := (l[1]'(by omega)).toNat_lt; have := (l[2]'(by omega)).toNat_lt; omega
  | k + 4, h, _ => absurd h (by omega)
theorem ptk_len (n : Nat) (l : List UInt8) : (ptk n l).1.length = n := by simp [ptk]; omega
set_option maxRecDepth 100000 in
set_option maxHeartbeats 4000000 in
theorem four_calls (p : Nat) (l : List UInt8) (X : HP) (w : World) (s : RdS B w0 R p l X w) :
    Calls Try.prog 49 #[.pointer (some ⟨p, 0, none⟩)] w fun e w' => e = .returned (.int .i64 (gNum ptk 4 l).1) ∧ RdS B w0 R p (l.drop 4) X w' := by
  have Q := Lib.hid (take_calls p 4 l (by omega) X w s)
  have hl := ptk_len 4 l
  have hv : (gNum ptk 4 l).1 = (pN (ptk 4 l).1 4 : Int) := by
    show pNum (ptk 4 l).1 = _
    unfold pN
    rw [List.take_of_length_le (by omega)]
    have := pNum_lo (ptk 4 l).1
    omega
  have Hv := Lib.hid hv
  clear hv
  generalize (ptk 4 l).1 = q at *
  clear s
  have HL := Lib.hid hl
  clear hl
  go_enter Try.func49, Try.ntmps49
  go_wp2_with fail
  refine Q.out.mono ?_
  rintro e w1 ⟨g, rfl, a, c, hr, s1⟩
  have s2 := s1.eq (Q := row 5 1 (.slice (some ⟨g, 0, none⟩) 4 4) 4 (bvs q) * (rdr p a c (l.drop 4) * (X * R))) (by ac_rfl)
  have hc := s2.rowB'.2.2.2.2.2.1
  have HC := Lib.hid hc
  have HR := Lib.hid hr
  have S2 := Lib.hid s2
  clear s1 s2 hr Q hc
  go_wp2_with fail
  go_loopw [3, 9] (fun v i wr => ∃ n : Nat, n ≤ 4 ∧ i = .int .i64 n ∧ v = .int .i64 (pN q n : Nat) ∧ wr = w1) (fun _ i _ => 4 - (intOf i).toNat)
  case atStart => exact ⟨0, Nat.zero_le _, rfl, rfl, rfl⟩
  case round =>
    obtain ⟨n, hn, rfl, rfl, rfl⟩ := hrel
    by_cases hlt : n < 4
    · have hql : n < q.length := by rw [HL.out]; exact hlt
      have hc := HC.out n hql
      have hs := pN_succ hql
      have hm := pN_lt (l := q) n (by omega) (by omega)
      have hx := q[n].toNat_lt
      have ho := or_byte (pN q n) q[n].toNat hm (by omega)
      generalize q[n] = x at *
      rw [← hs] at ho
      have Hs := Lib.hid hs
      generalize pN q n = m at *
      have hltI : (n : Int) < 4 := by omega
      clear hql hs
      go_wp2_with fail
      exact ⟨⟨n + 1, by omega, by go_num, rfl, trivial⟩, by simp [intOf]; omega⟩
    · obtain rfl : n = 4 := by omega
      clear hlt hn
      go_wp2_with fail
      go_ret
      rw [Hv.out]
      exact ⟨rfl, a, c, HR.out, S2.out.right⟩
end
end Go.Proofs.Ytnfkcmcchkcflaa.RcW
