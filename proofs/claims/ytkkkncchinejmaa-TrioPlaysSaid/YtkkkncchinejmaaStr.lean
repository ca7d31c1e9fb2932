/- Rows of texts of one's own; hypocaustref1.Strings and Same, walked. No condition. -/
import Derived.Test.YtkkkncchinejmaaFus
import Derived.Test.YtkkkncchinejmaaRex
import Derived.Test.YtkkkncchinejmaaRo
import Derived.Test.YtkkkncchinejmaaRws
namespace Go.Proofs.Ytkkkncchinejmaa.Str
open Go Go.RowKit Go.Proofs.Ytkkkncchinejmaa Go.Proofs.Ytkkkncchinejmaa.Sp Go.Proofs.Ytkkkncchinejmaa.Reg Go.Proofs.Ytkkkncchinejmaa.SlW Go.Proofs.Ytkkkncchinejmaa.Fus
theorem run_str_at {P : Program} {t : TypeId} (ht : P.underlying t = some .string) (w : World) (bs : List UInt8) (k : IntKind) (n : Nat) (h : n < bs.length) :
    (Instr.index t (str bs) (.int k (n : Int))).run P w = .ok (.int .u8 (bs[n].toNat : Int)) w := by
  have hsz : (⟨bs.toArray⟩ : ByteArray).size = bs.length := by simp [ByteArray.size]
  unfold str
  rw [run_index_string w t _ k _ ht, dif_pos ⟨by omega, by rw [hsz]; omega⟩]
  simp [ByteArray.getElem_eq_getElem_data]
theorem run_str_take {P : Program} {t : TypeId} (ht : P.underlying t = some .string) (w : World) (bs : List UInt8) (k : IntKind) (n : Nat) (h : n ≤ bs.length) :
    (Instr.sliceAt t (str bs) none (some (.int k (n : Int))) none).run P w = .ok (str (bs.take n)) w := by
  have hsz : (⟨bs.toArray⟩ : ByteArray).size = bs.length := by simp [ByteArray.size]
  have he : (⟨bs.toArray⟩ : ByteArray).extract 0 n = ⟨(bs.take n).toArray⟩ := by
    apply ByteArray.ext
    simp [ByteArray.data_extract]
  rw [run_sliceAt_string w t _ _ _ _ ht]
  unfold str
  simp [Instr.slice, run_underlying ht, Instr.sliceBounds, run_sliceBound, hsz, h, he]
theorem run_str_mid {P : Program} {t : TypeId} (ht : P.underlying t = some .string) (w : World) (bs : List UInt8) (k k' : IntKind) (l n : Nat) (hln : l ≤ n) (h : n ≤ bs.length) :
    (Instr.sliceAt t (str bs) (some (.int k (l : Int))) (some (.int k' (n : Int))) none).run P w = .ok (str ((bs.drop l).take (n - l))) w := by
  have hsz : (⟨bs.toArray⟩ : ByteArray).size = bs.length := by simp [ByteArray.size]
  have he : (⟨bs.toArray⟩ : ByteArray).extract l n = ⟨((bs.drop l).take (n - l)).toArray⟩ := by
    apply ByteArray.ext
    simp [ByteArray.data_extract]
  rw [run_sliceAt_string w t _ _ _ _ ht]
  unfold str
  simp [Instr.slice, run_underlying ht, Instr.sliceBounds, run_sliceBound, hsz, h, he, hln]
theorem run_str_from {P : Program} {t : TypeId} (ht : P.underlying t = some .string) (w : World) (bs : List UInt8) (k : IntKind) (l : Nat) (h : l ≤ bs.length) :
    (Instr.sliceAt t (str bs) (some (.int k (l : Int))) none none).run P w = .ok (str (bs.drop l)) w := by
  have hsz : (⟨bs.toArray⟩ : ByteArray).size = bs.length := by simp [ByteArray.size]
  have he : (⟨bs.toArray⟩ : ByteArray).extract l bs.length = ⟨(bs.drop l).toArray⟩ := by
    apply ByteArray.ext
    simp [ByteArray.data_extract]
    exact List.take_of_length_le (by simp)
  rw [run_sliceAt_string w t _ _ _ _ ht]
  unfold str
  simp [Instr.slice, run_underlying ht, Instr.sliceBounds, run_sliceBound, hsz, h, he]
/-- The texts' values. -/
def sv (l : List (List UInt8)) : List Value := l.map str
theorem sv_len (l : List (List UInt8)) : (sv l).length = l.length := List.length_map _
theorem str_inj {a b : List UInt8} (h : str a = str b) : a = b := by
  unfold str at h
  injection h with h
  injection h with h
  simpa using h
/-- A slice of texts that reads as these. -/
def SL (w : World) (v : Value) (l : List (List UInt8)) : Prop := ∃ a c, v = .slice a l.length c ∧ l.length ≤ c ∧ c ≤ maxLen ∧ (a = none → c = 0) ∧ Rd w a (sv l)
theorem SL.below {w w' : World} {v : Value} {l : List (List UInt8)} (h : SL w v l) (hb : Below w.heap.size w w') : SL w' v l := by
  obtain ⟨a, c, h1, h2, h3, h4, h5⟩ := h
  exact ⟨a, c, h1, h2, h3, h4, h5.below hb⟩
theorem St.sl {B : Nat} {w0 w : World} {R : HP} {e : TypeId} {v : Value} {n : Nat} (l : List (List UInt8)) (s : St B w0 w (row e 1 v n (sv l) * R)) : SL w v l := by
  obtain ⟨hl, h⟩ := s.rowOpen
  have hn : n = l.length := by rw [sv_len] at hl; simpa using hl.symm
  subst hn
  rcases h with ⟨rfl, h0, _⟩ | ⟨g, cap, cur, rfl, h1, h2, h3, h4, t⟩
  · obtain rfl : l = [] := List.eq_nil_of_length_eq_zero h0
    exact ⟨none, 0, rfl, Nat.le_refl _, Nat.zero_le _, fun _ => rfl, .inl rfl⟩
  · exact ⟨_, _, rfl, h1, h2, (fun e => by cases e), s.rowRd⟩
theorem SL.at {w : World} {a : Option Addr} {c n : Nat} {l : List (List UInt8)} (h : SL w (.slice a n c) l) (k : Nat) (hk : k < l.length) : ∃ b off, a = some ⟨b, off, none⟩ ∧ w.cell? ⟨b, off + k, none⟩ = some (str l[k]) := by
  obtain ⟨a', c', e, -, -, -, hr⟩ := h
  cases e
  obtain ⟨b, off, rfl, hc⟩ := hr.at (by intro e; have := congrArg List.length e; rw [sv_len, List.length_nil] at this; omega)
  exact ⟨b, off, rfl, hc k _ (by simp [sv, hk])⟩
theorem tSS : SlT Try.prog 24 9 1 16 (.string ⟨#[]⟩) := ⟨Try.underlying24, info_parts (by kernel_rfl), rfl, by decide⟩
/-- New texts are handed back. -/
def RetSS (B : Nat) (w0 : World) (R : HP) (l : List (List UInt8)) (e : Ending) (w' : World) : Prop := ∃ v, e = .returned v ∧ St B w0 w' (row 9 1 v l.length (sv l) * R)
section
variable {B : Nat} {w0 : World} {R : HP}
set_option maxRecDepth 100000 in
set_option maxHeartbeats 1600000 in
/-- The texts of slices of bytes. -/
theorem strings_calls (v : Value) (l : List (List UInt8)) (w : World) (h : ∀ w' H, St B w0 w' (H * R) → BSS w' v l) (hm : l.length ≤ 1000000) (s : St B w0 w R) :
    Calls Try.prog 12 #[v] w (RetSS B w0 R l) := by
  have HB := Lib.hid h
  obtain ⟨A, c, vs, rfl, -⟩ := h w emp (s.eq (emp_sep _).symm)
  have S := Lib.hid s
  clear s
  clear h
  go_enter Try.func12, Try.ntmps12
  go_wp2_with fail
  go_loopw [3, 4] (fun v i wr => ∃ k : Nat, k ≤ l.length ∧ i = .int .i64 k ∧ St B w0 wr (row 9 1 v k (sv (l.take k)) * R)) (fun _ i _ => l.length - (intOf i).toNat)
  case atStart => exact ⟨0, Nat.zero_le _, rfl, S.out.rowNil _ _⟩
  case round =>
    obtain ⟨k, hk, rfl, hs⟩ := hrel
    clear S
    obtain ⟨a3, c3, rfl, -⟩ := hs.rowSlice
    by_cases hlt : k < l.length
    · obtain ⟨-, -, -, -, vs, hr, hlv, hb⟩ := (HB.out _ _ hs).open'
      obtain ⟨u, hu, hbu⟩ := hb k hlt
      obtain ⟨a2, c2, rfl, hbu2⟩ : ∃ a c, u = .slice a l[k].length c ∧ BS _ (.slice a l[k].length c) l[k] := by
        obtain ⟨a, c, e, _⟩ := id hbu
        exact ⟨a, c, e, e ▸ hbu⟩
      obtain ⟨b, off, rfl, hc⟩ := hr.at (by rintro rfl; rw [List.length_nil] at hlv; omega)
      have hcell := hc k _ hu
      have hcv := run_str (P := Try.prog) Try.underlying23 Try.underlying5 Try.underlying9 hbu2
      have ht : sv (l.take (k + 1)) = sv (l.take k) ++ [str l[k]] := by rw [List.take_succ_eq_append_getElem hlt]; simp only [sv, List.map_append, List.map_cons, List.map_nil]
      have HT := Lib.hid ht
      have s2 := hs.alloc (.cells #[str l[k]] 9)
      have s4 := Lib.hid (St.eq (Q := row 9 1 (.slice a3 k c3) k (sv (l.take k)) * (pts wr.heap.size (.cells #[str l[k]] 9) * R)) (by ac_rfl) s2)
      have hrd := Lib.hid (Rd.new wr #[str l[k]] 9)
      clear hr hlv hb hc hu hbu hbu2 ht s2 hs
      go_wp2_with (at_builtin; go_must (refine wpl_append rfl _ _ rfl tSS s4.out (some ⟨wr.heap.size, 0, none⟩) 1 1 [str l[k]] rfl rfl hrd.out (fun e => by cases e) (by simp) (by simp [Value.oneCell']) (by unfold maxLen; omega) (by omega) ?_); intro v5 w5 s5 hv5; have S5 := Lib.hid s5; clear s5 hv5 s4 hrd)
      go_roundw
      case rel =>
        refine ⟨k + 1, by omega, by go_num, ?_⟩
        rw [HT.out]
        exact (S5.out.eq (sep_left_comm _ _ _)).right
      case measure => simp [intOf]; omega
    · obtain rfl : k = l.length := by omega
      rw [List.take_length] at hs
      have HS := Lib.hid hs
      clear hs
      go_wp2_with fail
      go_ret
      exact ⟨_, rfl, HS.out⟩
set_option maxRecDepth 100000 in
set_option maxHeartbeats 1600000 in
/-- Are two rows of texts the same? -/
theorem same_calls (v1 v2 : Value) (a b : List (List UInt8)) (w : World) (h1 : SL w v1 a) (h2 : SL w v2 b) :
    Calls Try.prog 11 #[v1, v2] w fun e w' => e = .returned (.bool (decide (a = b))) ∧ Add w w' := by
  obtain ⟨A1, c1, rfl, -, hm1, -⟩ := id h1
  obtain ⟨A2, c2, rfl, -, hm2, -⟩ := id h2
  have hl1 : a.length ≤ 9223372036854775807 := by obtain ⟨_, _, e, q1, q2, _⟩ := id h1; unfold maxLen at q2; omega
  unfold maxLen at hm1 hm2
  have H1 := Lib.hid h1
  have H2 := Lib.hid h2
  clear h1 h2
  by_cases hl : a.length = b.length
  · have e0 : ((a.length : Int) != b.length) = false := by simp; omega
    have HL := Lib.hid hl
    clear hl
    go_enter Try.func11, Try.ntmps11
    go_wp2_with fail
    go_loopw [5] (fun i wr => ∃ k : Nat, k ≤ a.length ∧ i = .int .i64 k ∧ a.take k = b.take k ∧ Add w wr) (fun i _ => a.length - (intOf i).toNat)
    case atStart => exact ⟨0, Nat.zero_le _, rfl, rfl, Add.refl w⟩
    case round =>
      obtain ⟨k, hk, rfl, het, ha⟩ := hrel
      have HA := Lib.hid ha
      have HET := Lib.hid het
      clear ha het
      by_cases hlt : k < a.length
      · have hlt2 : k < b.length := by rw [← HL.out]; exact hlt
        obtain ⟨b1, o1, rfl, hc1⟩ := (H1.out.below HA.out).at k hlt
        obtain ⟨b2, o2, rfl, hc2⟩ := (H2.out.below HA.out).at k hlt2
        have d1 : ∀ w', Add wr w' → w'.cell? ⟨b1, o1 + k, none⟩ = some (str a[k]) := fun w' h => Add.cell h hc1
        have d2 : ∀ w', Add wr w' → w'.cell? ⟨b2, o2 + k, none⟩ = some (str b[k]) := fun w' h => Add.cell h hc2
        have hta : a.take (k + 1) = a.take k ++ [a[k]] := List.take_succ_eq_append_getElem hlt
        have htb : b.take (k + 1) = b.take k ++ [b[k]] := List.take_succ_eq_append_getElem hlt2
        have hne : a[k] ≠ b[k] → a ≠ b := by rintro h rfl; exact h rfl
        generalize a[k] = x1 at *
        generalize b[k] = x2 at *
        have t1 : (k : Int) < (a.length : Int) := by omega
        have t2 : (k : Int) < (b.length : Int) := by omega
        have D1 := Lib.hid d1
        have D2 := Lib.hid d2
        clear d1 d2
        clear hc1 hc2
        by_cases he : x1 = x2
        · have HN := Lib.hid (show a.take (k + 1) = b.take (k + 1) by rw [hta, htb, HET.out, he])
          have He := Lib.hid he
          clear hne hta htb he
          go_wp2_with fail
          refine wp_region_rx (fun _ w' => Add wr w') [] mixed (by kernel_rfl) (by kernel_rfl) (Add.drew _) ?_
          refine RXl.exact (.slice (some ⟨b1, o1, none⟩) a.length c1) rfl rfl rfl rfl rfl (fun _ _ _ _ _ => rfl) ?_
          refine RXl.exact (.int .i64 k) rfl rfl rfl rfl rfl (fun _ _ _ _ _ => rfl) ?_
          refine RXl.exact (.pointer (some ⟨b1, o1 + k, none⟩)) rfl rfl rfl rfl rfl (fun j τ w' hj hJ => by simp [rho, upd, Spec.val, execOp, go_sem, t1]) ?_
          refine RXl.exact (str x1) rfl rfl rfl rfl rfl (fun j τ w' hj hJ => by have c := D1.out w' hJ; simp [rho, upd, Spec.val, execOp, go_sem, c]) ?_
          refine RXl.exact (.slice (some ⟨b2, o2, none⟩) b.length c2) rfl rfl rfl rfl rfl (fun _ _ _ _ _ => rfl) ?_
          refine RXl.exact (.int .i64 k) rfl rfl rfl rfl rfl (fun _ _ _ _ _ => rfl) ?_
          refine RXl.exact (.pointer (some ⟨b2, o2 + k, none⟩)) rfl rfl rfl rfl rfl (fun j τ w' hj hJ => by simp [rho, upd, Spec.val, execOp, go_sem, t2]) ?_
          refine RXl.exact (str x2) rfl rfl rfl rfl rfl (fun j τ w' hj hJ => by have c := D2.out w' hJ; simp [rho, upd, Spec.val, execOp, go_sem, c]) ?_
          refine RXl.exact (.bool false) rfl rfl rfl rfl rfl (fun j τ w' hj hJ => by simp [rho, upd, Spec.val, execOp, go_sem]; exact He.out) ?_
          refine RXl.nilx _ (Agr.upd _ _ (Agr.upd _ _ (Agr.upd _ _ (Agr.upd _ _ (Agr.upd _ _ (Agr.upd _ _ (Agr.upd _ _ (Agr.upd _ _ (Agr.upd _ _ (Agr.base _)))))))))) fun w3 hJ => ?_
          obtain ⟨_, hJ⟩ := hJ
          simp only [Act.put, List.setIfInBounds_toArray, List.set_cons_succ, List.set_cons_zero]
          go_wp2_with fail
          go_roundw
          case rel => exact ⟨k + 1, by omega, by go_num, HN.out, HA.out.trans hJ⟩
          case measure => simp [intOf]; omega
        · have HN := Lib.hid (show decide (a = b) = false from decide_eq_false (hne he))
          have He := Lib.hid he
          clear hne hta htb he
          go_wp2_with fail
          refine wp_region_rx (fun _ w' => Add wr w') [] mixed (by kernel_rfl) (by kernel_rfl) (Add.drew _) ?_
          refine RXl.exact (.slice (some ⟨b1, o1, none⟩) a.length c1) rfl rfl rfl rfl rfl (fun _ _ _ _ _ => rfl) ?_
          refine RXl.exact (.int .i64 k) rfl rfl rfl rfl rfl (fun _ _ _ _ _ => rfl) ?_
          refine RXl.exact (.pointer (some ⟨b1, o1 + k, none⟩)) rfl rfl rfl rfl rfl (fun j τ w' hj hJ => by simp [rho, upd, Spec.val, execOp, go_sem, t1]) ?_
          refine RXl.exact (str x1) rfl rfl rfl rfl rfl (fun j τ w' hj hJ => by have c := D1.out w' hJ; simp [rho, upd, Spec.val, execOp, go_sem, c]) ?_
          refine RXl.exact (.slice (some ⟨b2, o2, none⟩) b.length c2) rfl rfl rfl rfl rfl (fun _ _ _ _ _ => rfl) ?_
          refine RXl.exact (.int .i64 k) rfl rfl rfl rfl rfl (fun _ _ _ _ _ => rfl) ?_
          refine RXl.exact (.pointer (some ⟨b2, o2 + k, none⟩)) rfl rfl rfl rfl rfl (fun j τ w' hj hJ => by simp [rho, upd, Spec.val, execOp, go_sem, t2]) ?_
          refine RXl.exact (str x2) rfl rfl rfl rfl rfl (fun j τ w' hj hJ => by have c := D2.out w' hJ; simp [rho, upd, Spec.val, execOp, go_sem, c]) ?_
          refine RXl.exact (.bool true) rfl rfl rfl rfl rfl (fun j τ w' hj hJ => by simp [rho, upd, Spec.val, execOp, go_sem]; exact He.out) ?_
          refine RXl.nilx _ (Agr.upd _ _ (Agr.upd _ _ (Agr.upd _ _ (Agr.upd _ _ (Agr.upd _ _ (Agr.upd _ _ (Agr.upd _ _ (Agr.upd _ _ (Agr.upd _ _ (Agr.base _)))))))))) fun w3 hJ => ?_
          obtain ⟨_, hJ⟩ := hJ
          simp only [Act.put, List.setIfInBounds_toArray, List.set_cons_succ, List.set_cons_zero]
          go_wp2_with fail
          go_ret
          exact ⟨by rw [HN.out]; rfl, HA.out.trans hJ⟩
      · obtain rfl : k = a.length := by omega
        have HN := Lib.hid (show decide (a = b) = true from decide_eq_true (by have h := HET.out; rw [List.take_length, HL.out, List.take_length] at h; exact h))
        go_wp2_with fail
        go_ret
        exact ⟨by rw [HN.out]; rfl, HA.out⟩
  · have e0 : ((a.length : Int) != b.length) = true := by simp; omega
    have HN := Lib.hid (show decide (a = b) = false from decide_eq_false (by rintro rfl; exact hl rfl))
    clear hl
    go_enter Try.func11, Try.ntmps11
    go_wp2_with fail
    go_ret
    exact ⟨by rw [HN.out]; rfl, Add.refl w⟩
end
end Go.Proofs.Ytkkkncchinejmaa.Str
