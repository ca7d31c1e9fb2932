/- Codes, plain: sums of data, a byte turned. The document's Xor, walked. No condition. -/
import Derived.Test.YtjnfhppjkadlpaaCdP
import Derived.Test.YtjnfhppjkadlpaaMgB
import Derived.Test.YtjnfhppjkadlpaaMgG
set_option linter.unusedSimpArgs false
set_option linter.unusedVariables false
namespace Go.Proofs.Ytjnfhppjkadlpaa.Cd
open Go Go.RowKit Go.Proofs.Ytjnfhppjkadlpaa Go.Proofs.Ytjnfhppjkadlpaa.Sp Go.Proofs.Ytjnfhppjkadlpaa.Reg Go.Proofs.Ytjnfhppjkadlpaa.Rd Go.Proofs.Ytjnfhppjkadlpaa.Obr Go.Proofs.Ytjnfhppjkadlpaa.Gf Go.Proofs.Ytjnfhppjkadlpaa.Mt
open Go.Proofs.Ytjnfhppjkadlpaa.Str (run_str_at)
/-- The sum of two rows. -/
def zx (a b : List UInt8) : List UInt8 := (List.range a.length).map fun i => a.getD i 0 ^^^ b.getD i 0
theorem zx_len (a b : List UInt8) : (zx a b).length = a.length := by simp [zx]
/-- Under way. -/
def zk (a b : List UInt8) (k : Nat) : List UInt8 := (List.range a.length).map fun i => if i < k then a.getD i 0 ^^^ b.getD i 0 else a.getD i 0
theorem zk_len (a b : List UInt8) (k : Nat) : (zk a b k).length = a.length := by simp [zk]
theorem zk_zero (a b : List UInt8) : zk a b 0 = a := by
  refine List.ext_getElem (by simp [zk]) fun i h1 h2 => ?_
  simp [zk, List.getD, h2]
theorem zk_end (a b : List UInt8) : zk a b a.length = zx a b := by
  refine List.map_congr_left fun i hi => ?_
  rw [if_pos (List.mem_range.1 hi)]
theorem zk_at (a b : List UInt8) (k : Nat) (h : k < a.length) : (zk a b k)[k]'(by rw [zk_len]; exact h) = a[k] := by
  simp [zk, List.getD, h]
theorem zk_set (a b : List UInt8) (k : Nat) (h : k < a.length) : (zk a b k).set k (a.getD k 0 ^^^ b.getD k 0) = zk a b (k + 1) := by
  refine List.ext_getElem (by simp [zk]) fun i h1 h2 => ?_
  have hi : i < a.length := by simpa [zk] using h2
  rw [List.getElem_set]
  simp only [zk, List.getElem_map, List.getElem_range]
  by_cases e : k = i
  · subst e; rw [if_pos rfl, if_pos (by omega)]
  · rw [if_neg e]
    by_cases h3 : i < k
    · rw [if_pos h3, if_pos (by omega)]
    · rw [if_neg h3, if_neg (by omega)]
/-- Parities of a sum. -/
theorem par_zx {xs ys : List UInt8} {n : Nat} {x y z : List (List UInt8)} (hz : ∀ i q, (z.getD i []).getD q 0 = (x.getD i []).getD q 0 ^^^ (y.getD i []).getD q 0) (j : Nat) : par xs ys j n z = zx (par xs ys j n x) (par xs ys j n y) := by
  unfold zx
  rw [par_len]
  unfold par
  refine List.map_congr_left fun q hq => ?_
  have hq' := List.mem_range.1 hq
  have e : ∀ d, (List.map (pr1 xs ys d j) (List.range n)).getD q 0 = pr1 xs ys d j q := fun d => by simp [List.getD, List.getElem?_range hq']
  rw [e, e]
  unfold pr1
  rw [← sm_xor]
  exact sm_congr fun i _ => by rw [hz, gmul_xor]
theorem cf_ne {xs ys : List UInt8} (hg : Cd.Good xs ys) {j i : Nat} (hj : j < ys.length) (hi : i < xs.length) : cf xs ys j i ≠ 0 := by
  unfold cf
  refine inv_nz (xor_ne ?_)
  obtain ⟨-, -, dj⟩ := List.nodup_append.1 hg.nd
  simp only [List.getD, List.getElem?_eq_getElem hj, List.getElem?_eq_getElem hi, Option.getD_some]
  exact fun e => dj _ (List.getElem_mem hi) _ (List.getElem_mem hj) e.symm
/-- One byte turned is told by each parity. -/
theorem par_turn {xs ys : List UInt8} (hg : Cd.Good xs ys) {n : Nat} {x z : List (List UInt8)} {i q : Nat} {by_ : UInt8} (hi : i < xs.length) (hq : q < n) (hb : by_ ≠ 0)
    (hz : ∀ i' , (z.getD i' []).getD q 0 = if i' = i then (x.getD i []).getD q 0 ^^^ by_ else (x.getD i' []).getD q 0) {j : Nat} (hj : j < ys.length) : par xs ys j n z ≠ par xs ys j n x := by
  intro e
  have e1 : pr1 xs ys z j q = pr1 xs ys x j q := by
    have := congrArg (fun l => l.getD q 0) e
    simp only [par_at hq] at this
    exact this
  have e2 : pr1 xs ys z j q = pr1 xs ys x j q ^^^ gmul (cf xs ys j i) by_ := by
    unfold pr1
    rw [← sm_single (n := xs.length) hi (fun k => if k = i then gmul (cf xs ys j i) by_ else 0) (fun k _ hk => if_neg hk) |>.trans (if_pos rfl), ← sm_xor]
    refine sm_congr fun k _ => ?_
    rw [hz]
    by_cases h : k = i
    · subst h; rw [if_pos rfl, if_pos rfl, gmul_xor]
    · rw [if_neg h, if_neg h, UInt8.xor_zero]
  rw [e2] at e1
  have h3 := congrArg (fun v => pr1 xs ys x j q ^^^ v) e1
  simp only [← UInt8.xor_assoc, UInt8.xor_self, UInt8.zero_xor] at h3
  exact gmul_nz (cf_ne hg hj hi) hb h3
section
variable {B : Nat} {w0 w : World} {R : HP}
theorem frozen_far {g c : Nat} {C : Array Value} {t : TypeId} (s : St B w0 w (pts g (.cells C t (c, c + 1)) * R)) {i : Nat} (hi : i < c) : w.frozen? ⟨g, i, none⟩ = false := by
  have hb := s.block
  simp only [World.frozen?, hb]
  simp
  omega
/-- A text as bytes: a block of one's own. -/
theorem conv_st (F : List UInt8) (hF : F.length ≤ maxLen) (s : St B w0 w R) : ∃ (cap : Nat) (C : Array Value) (w' : World), (convert 9 32 (str F)).run Try.prog w = .ok (.slice (some ⟨w.heap.size, 0, none⟩) F.length cap) w' ∧
    C.size = cap ∧ F.length ≤ cap ∧ cap ≤ maxLen ∧ C.toList.take F.length = bvs F ∧ St B w0 w' (pts w.heap.size (.cells C 5 (cap, cap + 1)) * R) := by
  have hsz : (⟨F.toArray⟩ : ByteArray).size = F.length := by simp [ByteArray.size]
  have q := run_bytes_of_string (P := Try.prog) w 9 32 5 ⟨F.toArray⟩ Try.underlying9 Try.underlying32 Try.underlying5
  rw [hsz] at q
  have g1 := grownCap_ge w F.length 0 5
  have g2 := grownCap_le_maxLen w F.length 0 5 hF
  generalize grownCap w F.length 0 5 = cap at q g1 g2
  have hC : (bytesRow ⟨F.toArray⟩ cap).size = cap := by simp [bytesRow, hsz]; omega
  rw [hC] at q
  exact ⟨cap, _, _, q, hC, g1, g2, by simp [bytesRow, hsz, bvs, List.take_append_of_le_length], s.drew.alloc _⟩
theorem blk_bs {g cap : Nat} {C : Array Value} {f : Nat × Nat} {F : List UInt8} (h1 : F.length ≤ cap) (h2 : cap ≤ maxLen) (h3 : C.toList.take F.length = bvs F) (s : St B w0 w (pts g (.cells C 5 f) * R)) : BS w (.slice (some ⟨g, 0, none⟩) F.length cap) F := by
  refine ⟨_, _, rfl, h1, h2, (fun e => by cases e), .inr ⟨g, 0, rfl, fun j u hj => ?_⟩⟩
  have hj' : j < F.length := by have := (List.getElem?_eq_some_iff.1 hj).1; simpa using this
  rw [Nat.zero_add, s.cell j]
  have h := congrArg (·[j]?) h3
  simp only [List.getElem?_take, hj', if_true] at h
  rw [← hj]
  simp only [Array.getElem?_toList] at h
  exact h
/-- Such a block, holding these bytes first. -/
def blk (g cap : Nat) (F : List UInt8) : HP := exi fun C : Array Value => pur (C.size = cap ∧ F.length ≤ cap ∧ cap ≤ maxLen ∧ C.toList.take F.length = bvs F) * pts g (.cells C 5 (cap, cap + 1))
theorem blk_open {g cap : Nat} {F : List UInt8} (s : St B w0 w (blk g cap F * R)) : ∃ C : Array Value, C.size = cap ∧ F.length ≤ cap ∧ cap ≤ maxLen ∧ C.toList.take F.length = bvs F ∧ St B w0 w (pts g (.cells C 5 (cap, cap + 1)) * R) := by
  obtain ⟨C, s1⟩ := St.ex.1 s
  rw [sep_assoc] at s1
  obtain ⟨⟨h1, h2, h3, h4⟩, s2⟩ := St.pu.1 s1
  exact ⟨C, h1, h2, h3, h4, s2⟩
theorem blk_mk {g cap : Nat} {F : List UInt8} {C : Array Value} (h1 : C.size = cap) (h2 : F.length ≤ cap) (h3 : cap ≤ maxLen) (h4 : C.toList.take F.length = bvs F) (s : St B w0 w (pts g (.cells C 5 (cap, cap + 1)) * R)) : St B w0 w (blk g cap F * R) := by
  refine St.ex.2 ⟨C, ?_⟩
  rw [sep_assoc]
  exact St.pu.2 ⟨⟨h1, h2, h3, h4⟩, s⟩
theorem blk_BS {g cap : Nat} {F : List UInt8} (s : St B w0 w (blk g cap F * R)) : BS w (.slice (some ⟨g, 0, none⟩) F.length cap) F := by
  obtain ⟨C, h1, h2, h3, h4, s2⟩ := blk_open s
  exact blk_bs h2 h3 h4 s2
theorem blk_set {g cap : Nat} {F : List UInt8} (s : St B w0 w (blk g cap F * R)) {i : Nat} (hi : i < F.length) (x : UInt8) : w.frozen? ⟨g, i, none⟩ = false ∧ w.cell? ⟨g, i, none⟩ = some (bv F[i]) ∧ St B w0 (w.setCell ⟨g, i, none⟩ (bv x)) (blk g cap (F.set i x) * R) := by
  obtain ⟨C, h1, h2, h3, h4, s2⟩ := blk_open s
  have hc := (blk_bs h2 h3 h4 s2).cellAt i hi
  rw [Nat.zero_add] at hc
  refine ⟨frozen_far s2 (by omega), hc, blk_mk (by simp [h1]) (by simpa using h2) h3 ?_ (s2.set i (bv x))⟩
  rw [Array.toList_setIfInBounds, List.length_set, List.take_set, h4, bvs, bvs, List.map_set]
set_option maxRecDepth 100000 in
set_option maxHeartbeats 8000000 in
theorem xor_calls (a b : List UInt8) (hab : b.length = a.length) (hl : a.length ≤ 1000000) (s : St B w0 w R) :
    Calls Try.prog 35 #[str a, str b] w (RetG B w0 R (str (zx a b))) := by
  obtain ⟨cap, C, w1, hcv, h1, h2, h3, h4, s1⟩ := conv_st a (by unfold maxLen; omega) s
  have s2 := blk_mk h1 h2 h3 h4 s1
  generalize w.heap.size = g at *
  rw [← zk_zero a b] at s2
  have S := Lib.hid s2
  obtain ⟨n, hn⟩ : ∃ n, a.length = n := ⟨_, rfl⟩
  have HN := Lib.hid hn
  have hbs : (⟨b.toArray⟩ : ByteArray).size = n := by simp [ByteArray.size, hab, hn]
  have HAB := Lib.hid hab
  rw [hn] at hcv h2 hl
  clear hab hn s s1 s2 h1 h4
  go_enter Try.func35, Try.ntmps35
  go_wp2_with fail
  go_loopw [6] (fun ii wr => ∃ i : Nat, i ≤ n ∧ ii = .int .i64 (i : Int) ∧ St B w0 wr (blk g cap (zk a b i) * R)) (fun ii _ => n - (intOf ii).toNat)
  case atStart => exact ⟨0, Nat.zero_le _, rfl, S.out⟩
  case round =>
    obtain ⟨i, hi, rfl, s3⟩ := hrel
    clear S
    by_cases hlt : i < n
    · have hltI : (i : Int) < (n : Int) := by omega
      have hia : i < a.length := by rw [HN.out]; exact hlt
      have hib : i < b.length := by rw [HAB.out]; exact hia
      have HX := Lib.hid (bits_xor_u8' a[i] b[i])
      have HZ := Lib.hid (zk_set a b i hia)
      have HD := Lib.hid (show a.getD i 0 = a[i] ∧ b.getD i 0 = b[i] from by simp [List.getD, hia, hib])
      have S3 := Lib.hid s3
      clear s3
      go_wp2_with fail
      refine wp_region_rx (fun pp_ w' => St B w0 w' (blk g cap (zk a b (if pp_ = 0 then i else i + 1)) * R)) [11] Gf.mixed (by kernel_rfl) (by kernel_rfl) S3.out.drew ?_
      refine RXl.exact (.slice (some ⟨g, 0, none⟩) n cap) rfl rfl rfl rfl rfl (fun _ _ _ _ _ => rfl) ?_
      refine RXl.exact (.int .i64 (i : Int)) rfl rfl rfl rfl rfl (fun _ _ _ _ _ => rfl) ?_
      refine RXl.exact (.slice (some ⟨g, 0, none⟩) n cap) rfl rfl rfl rfl rfl (fun _ _ _ _ _ => rfl) ?_
      refine RXl.exact (.int .i64 (i : Int)) rfl rfl rfl rfl rfl (fun _ _ _ _ _ => rfl) ?_
      refine RXl.exact (.pointer (some ⟨g, i, none⟩)) rfl rfl rfl rfl rfl (fun j τ w' hj hJ => by have t1 : (i : Int) < (n : Int) := (by omega); simp [rho, upd, Spec.val, execOp, go_sem, t1]) ?_
      refine RXl.exactB 0 11 rfl (by kernel_rfl) (bv a[i]) rfl rfl rfl rfl rfl (fun j τ w' hj hJ => by obtain rfl : j = 0 := (by omega); have c := (blk_set hJ (i := i) (by rw [zk_len]; exact hia) 0).2.1; simp only [if_pos] at c; rw [zk_at a b i hia] at c; simp [rho, upd, Spec.val, execOp, go_sem, c]) ?_
      refine RXl.exact (str b) rfl rfl rfl rfl rfl (fun _ _ _ _ _ => rfl) ?_
      refine RXl.exact (.int .i64 (i : Int)) rfl rfl rfl rfl rfl (fun _ _ _ _ _ => rfl) ?_
      refine RXl.exact (bv b[i]) rfl rfl rfl rfl rfl (fun j τ w' hj hJ => by have c := run_str_at (P := Try.prog) Try.underlying9 w' b .i64 i hib; simp [rho, upd, Spec.val, execOp, go_sem, c]) ?_
      refine RXl.exact (bv (a[i] ^^^ b[i])) rfl rfl rfl rfl rfl (fun j τ w' hj hJ => by have c := HX.out; simp [rho, upd, Spec.val, execOp, go_sem, c]) ?_
      refine RXl.exact (.pointer (some ⟨g, i, none⟩)) rfl rfl rfl rfl rfl (fun j τ w' hj hJ => by have t1 : (i : Int) < (n : Int) := (by omega); simp [rho, upd, Spec.val, execOp, go_sem, t1]) ?_
      refine RXl.effj 0 rfl rfl rfl rfl rfl rfl (fun w' hJ => (let h := blk_set hJ (i := i) (by rw [zk_len]; exact hia) (a[i] ^^^ b[i]); ⟨_, exec_store rfl rfl rfl rfl (by kernel_rfl) h.2.1 h.1, by have q := h.2.2; rw [if_pos rfl, ← HD.out.1, ← HD.out.2, HZ.out] at q; rw [if_neg (by omega)]; rw [← HD.out.1, ← HD.out.2]; exact q⟩)) ?_
      refine RXl.nilx _ (Agr.upd _ _ (Agr.upd _ _ (Agr.upd _ _ (Agr.upd _ _ (Agr.upd _ _ (Agr.upd _ _ (Agr.upd _ _ (Agr.upd _ _ (Agr.upd _ _ (Agr.upd _ _ (Agr.upd _ _ (Agr.base _)))))))))))) fun w8 hJ => ?_
      obtain ⟨_, hJ⟩ := hJ
      simp only [Act.put, List.setIfInBounds_toArray, List.set_cons_succ, List.set_cons_zero]
      have S9 := Lib.hid (show St B w0 w8 (blk g cap (zk a b (i + 1)) * R) from hJ)
      clear hJ S3 HX HZ HD
      go_wp2_with fail
      go_roundw
      case rel => exact ⟨i + 1, by omega, by go_num, S9.out⟩
      case measure => simp [intOf]; omega
    · obtain rfl : i = n := by omega
      have hbsx := blk_BS s3
      rw [zk_len, HN.out] at hbsx
      have hz : zk a b i = zx a b := by rw [← HN.out]; exact zk_end a b
      rw [hz] at hbsx
      have q9 : (convert 32 9 (.slice (some ⟨g, 0, none⟩) i cap)).run Try.prog wr = .ok (str (zx a b)) wr := run_str Try.underlying32 Try.underlying5 Try.underlying9 hbsx
      have S3 := Lib.hid s3
      clear s3
      clear hbsx hz
      go_wp2_with fail
      go_ret
      exact ⟨rfl, S3.out.right⟩
end
end Go.Proofs.Ytjnfhppjkadlpaa.Cd
