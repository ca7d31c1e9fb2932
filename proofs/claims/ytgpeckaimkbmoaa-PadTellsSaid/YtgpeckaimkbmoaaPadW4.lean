/- The walks of the reference: Full, Cut, Strings, Same (texts). -/
import Derived.Test.YtgpeckaimkbmoaaPadW3
import Derived.Deep.QuietTactic
import Derived.BigQuiet
namespace Go.Proofs.Ytgpeckaimkbmoaa.PadW
open Go Go.RowKit Go.Proofs.Ytgpeckaimkbmoaa Go.Proofs.Ytgpeckaimkbmoaa.Sp Go.Proofs.Ytgpeckaimkbmoaa.Reg Go.Proofs.Ytgpeckaimkbmoaa.SlW

theorem bs_val {w : World} {v : Value} {bs : List UInt8} (h : BS w v bs) : ∃ a c, v = .slice a bs.length c ∧ BS w (.slice a bs.length c) bs := by
  obtain ⟨a, c, e, _⟩ := id h
  exact ⟨a, c, e, e ▸ h⟩
theorem bss_val {w : World} {v : Value} {bss : List (List UInt8)} (h : BSS w v bss) : ∃ a c, v = .slice a bss.length c ∧ BSS w (.slice a bss.length c) bss := by
  obtain ⟨a, c, vs, e, _⟩ := id h
  exact ⟨a, c, e, e ▸ h⟩
/-- s[:n], s[l:n], s[l:] of a text. -/
theorem run_str_take {P : Program} {t : TypeId} (ht : P.underlying t = some .string) (w : World) (bs : List UInt8) (k : IntKind) (n : Nat) (h : n ≤ bs.length) :
    (Instr.sliceAt t (str bs) none (some (.int k (n : Int))) none).run P w = .ok (str (bs.take n)) w := by
  have hsz : (⟨bs.toArray⟩ : ByteArray).size = bs.length := by simp [ByteArray.size]
  have he : (⟨bs.toArray⟩ : ByteArray).extract 0 n = ⟨(bs.take n).toArray⟩ := by
    apply ByteArray.ext
    simp [ByteArray.data_extract]
  rw [run_sliceAt_string w t _ _ _ _ ht]
  unfold str
  simp [Instr.slice, run_underlying ht, Instr.sliceBounds, run_sliceBound, hsz, h, he]
theorem run_str_mid {P : Program} {t : TypeId} (ht : P.underlying t = some .string) (w : World) (bs : List UInt8) (k k' : IntKind) (l n : Nat) (hln : l ≤ n) (h : n ≤ bs.length) :
    (Instr.sliceAt t (str bs) (some (.int k (l : Int))) (some (.int k' (n : Int))) none).run P w = .ok (str ((bs.drop l).take (n - l))) w := by
  have hsz : (⟨bs.toArray⟩ : ByteArray).size = bs.length := by simp [ByteArray.size]
  have he : (⟨bs.toArray⟩ : ByteArray).extract l n = ⟨((bs.drop l).take (n - l)).toArray⟩ := by
    apply ByteArray.ext
    simp [ByteArray.data_extract]
  rw [run_sliceAt_string w t _ _ _ _ ht]
  unfold str
  simp [Instr.slice, run_underlying ht, Instr.sliceBounds, run_sliceBound, hsz, h, he, hln]
theorem run_str_from {P : Program} {t : TypeId} (ht : P.underlying t = some .string) (w : World) (bs : List UInt8) (k : IntKind) (l : Nat) (h : l ≤ bs.length) :
    (Instr.sliceAt t (str bs) (some (.int k (l : Int))) none none).run P w = .ok (str (bs.drop l)) w := by
  have hsz : (⟨bs.toArray⟩ : ByteArray).size = bs.length := by simp [ByteArray.size]
  have he : (⟨bs.toArray⟩ : ByteArray).extract l bs.length = ⟨(bs.drop l).toArray⟩ := by
    apply ByteArray.ext
    simp [ByteArray.data_extract]
    exact List.take_of_length_le (by simp)
  rw [run_sliceAt_string w t _ _ _ _ ht]
  unfold str
  simp [Instr.slice, run_underlying ht, Instr.sliceBounds, run_sliceBound, hsz, h, he]
/-- A slice of texts. -/
def SS (w : World) (v : Value) (ss : List (List UInt8)) : Prop := ∃ a c, v = .slice a ss.length c ∧ Rd w a (ss.map str) ∧ ss.length ≤ maxLen
theorem SS.below {w w' : World} {v : Value} {ss : List (List UInt8)} (h : SS w v ss) (hb : Below w.heap.size w w') : SS w' v ss := by
  obtain ⟨a, c, e, h1, h2⟩ := h
  exact ⟨a, c, e, h1.below hb, h2⟩
theorem Stab.ss (ss : List (List UInt8)) : (Spec.so fun v w => SS w v ss).Stab := fun _ _ _ h k => SS.below k h
/-- A slice of texts, written out. -/
theorem build_ss {P : Program} {ρ : Operand → Value} {o : Oper} {w : World} {t e : TypeId} {k : Nat} {ps : Array (Nat × Operand)} (hop : o.op = .buildSlice t k ps) (ss : List (List UInt8))
    (hrun : ∀ w, (Instr.buildSlice t k (ps.map fun (i, x) => (i, ρ x))).run P w = .ok (.slice (some ⟨w.heap.size, 0, none⟩) ss.length ss.length) (w.alloc (.cells (ss.map str).toArray e)))
    (hm : ss.length ≤ maxLen) :
    ∃ v w', (execOp ρ o).run P w = .ok (.value v) w' ∧ Add w w' ∧ (Spec.so fun v w => SS w v ss).holds v w' := by
  refine ⟨.slice (some ⟨w.heap.size, 0, none⟩) ss.length ss.length, w.alloc (.cells (ss.map str).toArray e), by simp only [execOp, hop]; simp [hrun, Result.andThen], Add.alloc _ _, ?_⟩
  exact ⟨_, _, rfl, by simpa using Rd.new w (ss.map str).toArray e, hm⟩
theorem ss_val {w : World} {v : Value} {ss : List (List UInt8)} (h : SS w v ss) : ∃ a c, v = .slice a ss.length c ∧ SS w (.slice a ss.length c) ss := by
  obtain ⟨a, c, e, _⟩ := id h
  exact ⟨a, c, e, e ▸ h⟩
theorem tSS : SlT Try.prog 56 9 1 16 (.string ⟨#[]⟩) := ⟨Try.underlying56, info_parts (by kernel_rfl), rfl, by decide⟩
set_option maxHeartbeats 400000 in
theorem rfull_calls (bs : List UInt8) (w : World) (hl : bs.length ≤ 64) :
    Calls Try.prog 32 #[str bs] w fun e w' => e = .returned (str (bs ++ List.replicate (64 - bs.length) 0)) ∧ Add w w' := by
  obtain ⟨k, hk, hk2⟩ : ∃ k : Nat, (64 : Int) - (bs.length : Int) = (k : Int) ∧ 64 - bs.length = k := ⟨64 - bs.length, by omega, by omega⟩
  have hsz : (⟨bs.toArray⟩ : ByteArray).size = bs.length := by simp [ByteArray.size]
  rw [hk2]
  have K2 := Lib.hid hk2
  have htxt : ∀ x y : List UInt8, (Value.string (⟨x.toArray⟩ ++ ⟨y.toArray⟩)) = str (x ++ y) := fun x y => congrArg Value.string (ByteArray.mk_append_mk x y)
  have HTXT := Lib.hid htxt
  clear htxt hk2
  go_enter Try.func32, Try.ntmps32
  go_wp2_with (at_make; go_must (refine wpl_make1 rfl _ _ rfl tB rfl (St.init w) .i64 .i64 k k rfl rfl (Nat.le_refl _) (by have := K2.out; unfold maxLen; omega) (by have := K2.out; omega) ?_); intro g w2 s2; rw [bvs_zeros] at s2; have hcv := run_str (P := Try.prog) Try.underlying22 Try.underlying5 Try.underlying9 s2.bs; have H2 := Lib.hid s2.below; clear s2)
  go_ret
  exact ⟨congrArg _ (HTXT.out _ _), H2.out⟩
theorem St.ss {B : Nat} {w0 w : World} {R : HP} {e : TypeId} {v : Value} {n : Nat} (ss : List (List UInt8)) (s : St B w0 w (row e 1 v n (ss.map str) * R)) : SS w v ss := by
  obtain ⟨hl, h⟩ := s.rowOpen
  have hn : n = ss.length := by simpa using hl.symm
  subst hn
  rcases h with ⟨rfl, h0, _⟩ | ⟨g, cap, cur, rfl, h1, h2, h3, h4, t⟩
  · have : ss = [] := List.eq_nil_of_length_eq_zero h0
    subst this
    exact ⟨none, 0, rfl, .inl rfl, Nat.zero_le _⟩
  · exact ⟨_, _, rfl, s.rowRd, Nat.le_trans h1 h2⟩
theorem SS.at {w : World} {a : Option Addr} {c n : Nat} {ss : List (List UInt8)} (h : SS w (.slice a n c) ss) (k : Nat) (hk : k < ss.length) : ∃ b off, a = some ⟨b, off, none⟩ ∧ w.cell? ⟨b, off + k, none⟩ = some (str ss[k]) := by
  obtain ⟨a', c', e, hr, -⟩ := h
  cases e
  obtain ⟨b, off, rfl, hc⟩ := hr.at (by intro e; have := congrArg List.length e; rw [List.length_map, List.length_nil] at this; omega)
  exact ⟨b, off, rfl, hc k _ (by simp [hk])⟩
set_option maxHeartbeats 800000 in
/-- The texts of slices of bytes. -/
theorem strings_calls (A : Option Addr) (c : Nat) (bss : List (List UInt8)) (w : World) (h : BSS w (.slice A bss.length c) bss) (hm : bss.length ≤ 1000000) :
    Calls Try.prog 34 #[.slice A bss.length c] w fun e w' => ∃ v, e = .returned v ∧ Add w w' ∧ SS w' v bss := by
  have HB := Lib.hid h
  clear h
  go_enter Try.func34, Try.ntmps34
  go_wp2_with fail
  go_loopw [3, 4] (fun v i wr => ∃ k : Nat, k ≤ bss.length ∧ i = .int .i64 k ∧ St w.heap.size w wr (row 9 1 v k ((bss.take k).map str) * emp)) (fun _ i _ => bss.length - (intOf i).toNat)
  case atStart => exact ⟨0, by omega, rfl, (St.init w).rowNil 9 1⟩
  case round =>
    obtain ⟨k, hk, rfl, hs⟩ := hrel
    have HS := Lib.hid hs
    clear hs
    by_cases hlt : k < bss.length
    · obtain ⟨-, -, -, -, vs, hr, hlv, hb⟩ := (HB.out.below HS.out.below).open'
      obtain ⟨u, hu, hbu⟩ := hb k hlt
      obtain ⟨a2, c2, rfl, hbu2⟩ : ∃ a c, u = .slice a bss[k].length c ∧ BS _ (.slice a bss[k].length c) bss[k] := by
        obtain ⟨a, c, e, _⟩ := id hbu
        exact ⟨a, c, e, e ▸ hbu⟩
      obtain ⟨b, off, rfl, hc⟩ := hr.at (by rintro rfl; rw [List.length_nil] at hlv; omega)
      have hcell := hc k _ hu
      have hcv := run_str (P := Try.prog) Try.underlying22 Try.underlying5 Try.underlying9 hbu2
      have ht : (bss.take (k + 1)).map str = (bss.take k).map str ++ [str bss[k]] := by rw [List.take_succ_eq_append_getElem hlt, List.map_append]; rfl
      have HT := Lib.hid ht
      have s2 := HS.out.alloc (.cells #[str bss[k]] 9)
      have s4 := Lib.hid (St.eq (Q := row 9 1 u3 k ((bss.take k).map str) * (pts wr.heap.size (.cells #[str bss[k]] 9) * emp)) (by ac_rfl) s2)
      have hrd := Lib.hid (Rd.new wr #[str bss[k]] 9)
      clear hr hlv hb hc hu hbu hbu2 ht s2
      go_wp2_with (at_builtin; go_must (refine wpl_append rfl _ _ rfl tSS s4.out (some ⟨wr.heap.size, 0, none⟩) 1 1 [str bss[k]] rfl rfl hrd.out (fun e => by cases e) (by simp) (by simp [Value.oneCell']) (by unfold maxLen; omega) (by omega) ?_); intro v5 w5 s5 hv5; have S5 := Lib.hid s5; clear s5 hv5 s4 hrd)
      go_roundw
      case rel =>
        refine ⟨k + 1, by omega, by go_num, ?_⟩
        rw [HT.out]
        have s7 := St.eq (Q := pts wr.heap.size (.cells #[str bss[k]] 9) * (row 9 1 v5 (k + 1) ((bss.take k).map str ++ [str bss[k]]) * emp)) (by ac_rfl) S5.out
        exact s7.right
      case measure => simp [intOf]; omega
    · obtain rfl : k = bss.length := by omega
      go_wp2_with fail
      go_ret
      refine ⟨_, rfl, HS.out.below, ?_⟩
      have := HS.out
      rw [List.take_length] at this
      exact St.ss _ this
set_option maxHeartbeats 800000 in
/-- Two rows of the same texts. -/
theorem same_yes (v1 v2 : Value) (ss : List (List UInt8)) (w : World) (h1 : SS w v1 ss) (h2 : SS w v2 ss) :
    Calls Try.prog 33 #[v1, v2] w fun e w' => e = .returned (.bool true) ∧ Add w w' := by
  obtain ⟨a1, c1, rfl, h1⟩ := ss_val h1
  obtain ⟨a2, c2, rfl, h2⟩ := ss_val h2
  have hm : ss.length ≤ 9223372036854775807 := by obtain ⟨_, _, _, _, q⟩ := h1; unfold maxLen at q; omega
  have H1 := Lib.hid h1
  have H2 := Lib.hid h2
  have e0 : ((ss.length : Int) != ss.length) = false := by simp
  clear h1 h2
  go_enter Try.func33, Try.ntmps33
  go_wp2_with fail
  go_loopw [5] (fun i wr => ∃ k : Nat, k ≤ ss.length ∧ i = .int .i64 k ∧ Add w wr) (fun i _ => ss.length - (intOf i).toNat)
  case atStart => exact ⟨0, by omega, rfl, Add.refl w⟩
  case round =>
    obtain ⟨k, hk, rfl, ha⟩ := hrel
    have HA := Lib.hid ha
    clear ha
    by_cases hlt : k < ss.length
    · obtain ⟨b1, o1, rfl, hc1⟩ := (H1.out.below HA.out).at k hlt
      obtain ⟨b2, o2, rfl, hc2⟩ := (H2.out.below HA.out).at k hlt
      go_wp2_with fail
      go_quiet (fail)
      go_wp2_with fail
      go_roundw
      case rel => exact ⟨k + 1, by omega, by go_num, HA.out.trans ((Below.refl _ _).trans ⟨rfl, rfl, rfl, Nat.le_refl _, fun _ _ => rfl⟩)⟩
      case measure => simp [intOf]; omega
    · obtain rfl : k = ss.length := by omega
      go_wp2_with fail
      go_ret
      exact ⟨rfl, HA.out⟩
set_option maxHeartbeats 800000 in
/-- The reference's cut. -/
theorem rcut_calls (bs : List UInt8) (w : World) (hl : bs.length ≤ 64) :
    Calls Try.prog 35 #[str bs] w fun e w' => ∃ v, e = .returned v ∧ Add w w' ∧ SS w' v ((List.range 4).map (piece (bs ++ List.replicate (64 - bs.length) 0))) := by
  go_enter Try.func35, Try.ntmps35
  go_wp2_with fail
  refine (rfull_calls bs w hl).mono ?_
  have hfl : (bs ++ List.replicate (64 - bs.length) (0 : UInt8)).length = 64 := by simp; omega
  generalize hF : bs ++ List.replicate (64 - bs.length) (0 : UInt8) = F at hfl ⊢
  have HF := Lib.hid hF
  clear hF
  rintro e w1 ⟨rfl, h1⟩
  have H1 := Lib.hid h1
  clear h1
  have hs0 := fun w => run_str_take (P := Try.prog) Try.underlying9 w F .i64 16 (by omega)
  have hs1 := fun w => run_str_mid (P := Try.prog) Try.underlying9 w F .i64 .i64 16 32 (by omega) (by omega)
  have hs2 := fun w => run_str_mid (P := Try.prog) Try.underlying9 w F .i64 .i64 32 48 (by omega) (by omega)
  have hs3 := fun w => run_str_from (P := Try.prog) Try.underlying9 w F .i64 48 (by omega)
  have e0 : piece F 0 = F.take 16 := rfl
  have e1 : piece F 1 = (F.drop 16).take 16 := rfl
  have e2 : piece F 2 = (F.drop 32).take 16 := rfl
  have e3 : piece F 3 = F.drop 48 := by unfold piece; rw [List.take_of_length_le (by simp; omega)]
  have el : (List.range 4).map (piece F) = [F.take 16, (F.drop 16).take 16, (F.drop 32).take 16, F.drop 48] := by
    rw [← e0, ← e1, ← e2, ← e3]; rfl
  have HEL := Lib.hid el
  clear e0 e1 e2 e3 el hfl
  generalize F.take 16 = X0 at hs0 HEL
  generalize (F.drop 16).take 16 = X1 at hs1 HEL
  generalize (F.drop 32).take 16 = X2 at hs2 HEL
  generalize F.drop 48 = X3 at hs3 HEL
  go_wp2_with fail
  refine wp_region_rs mixed (by kernel_rfl) ?_
  refine RSl.exact (str F) rfl rfl rfl rfl (fun _ _ => rfl) ?_
  refine RSl.exact (str X0) rfl rfl rfl rfl (fun w' ha => exec_slice rfl (hs0 w')) ?_
  refine RSl.exact (str F) rfl rfl rfl rfl (fun _ _ => rfl) ?_
  refine RSl.exact (str X1) rfl rfl rfl rfl (fun w' ha => exec_slice rfl (hs1 w')) ?_
  refine RSl.exact (str F) rfl rfl rfl rfl (fun _ _ => rfl) ?_
  refine RSl.exact (str X2) rfl rfl rfl rfl (fun w' ha => exec_slice rfl (hs2 w')) ?_
  refine RSl.exact (str F) rfl rfl rfl rfl (fun _ _ => rfl) ?_
  refine RSl.exact (str X3) rfl rfl rfl rfl (fun w' ha => exec_slice rfl (hs3 w')) ?_
  refine RSl.value (.so (fun v w => SS w v [X0, X1, X2, X3])) (Stab.ss _) rfl rfl rfl (fun ρ w' ha hag => build_ss (e := 9) rfl [X0, X1, X2, X3] (fun w => by have e7 := hag.ex 7 (str X0) rfl rfl rfl; have e9 := hag.ex 9 (str X1) rfl rfl rfl; have e11 := hag.ex 11 (str X2) rfl rfl rfl; have e13 := hag.ex 13 (str X3) rfl rfl rfl; simp [e7, e9, e11, e13, go_sem]) (by simp [maxLen])) ?_
  refine RSl.assign 14 rfl rfl rfl (Stab.ss _) rfl rfl ?_
  refine RSl.nil fun a' w' ha hd hs hh => ?_
  obtain ⟨tm, df⟩ := a'
  have hd : df = [] := hd
  subst hd
  have h2 : SS w' (tm.getD 2 undef) [X0, X1, X2, X3] := hh 2 (by simp)
  clear hh
  go_wp2_with fail
  refine bodyPost_ret (results_tmp rfl _ _ _) rfl ?_
  exact ⟨_, rfl, H1.out.trans ha, by rw [HF.out]; rw [← HEL.out] at h2; exact h2⟩
end Go.Proofs.Ytgpeckaimkbmoaa.PadW
