/- Codes: Check of shards that are all there, Rebuild of one of them, walked. No condition. -/
import Derived.Test.YtjnfhppjkadlpaaCdV
set_option linter.unusedSimpArgs false
set_option linter.unusedVariables false
namespace Go.Proofs.Ytjnfhppjkadlpaa.Cd
open Go Go.RowKit Go.Proofs.Ytjnfhppjkadlpaa Go.Proofs.Ytjnfhppjkadlpaa.Sp Go.Proofs.Ytjnfhppjkadlpaa.Reg Go.Proofs.Ytjnfhppjkadlpaa.Rd Go.Proofs.Ytjnfhppjkadlpaa.Obr Go.Proofs.Ytjnfhppjkadlpaa.Gf Go.Proofs.Ytjnfhppjkadlpaa.Mt
/-- The parities are those of the data. -/
def okx (xs ys : List UInt8) (n : Nat) (L : List (List UInt8)) (j : Nat) : Bool := decide (∀ i, i < j → L.getD (xs.length + i) [] = par xs ys i n (L.take xs.length))
theorem okx_succ (xs ys : List UInt8) (n : Nat) (L : List (List UInt8)) (j : Nat) : okx xs ys n L (j + 1) = (okx xs ys n L j && decide (L.getD (xs.length + j) [] = par xs ys j n (L.take xs.length))) := by
  unfold okx
  rw [Bool.eq_iff_iff]
  simp only [decide_eq_true_eq, Bool.and_eq_true]
  constructor
  · intro h
    exact ⟨fun i hi => h i (by omega), h j (by omega)⟩
  · rintro ⟨h1, h2⟩ i hi
    by_cases e : i = j
    · subst e; exact h2
    · exact h1 i (by omega)
theorem thr_all {L : List (List UInt8)} : thr (L.map some) L.length = List.range L.length := by
  unfold thr
  refine List.filter_eq_self.2 fun s hs => ?_
  rw [sat_all, List.getElem?_eq_getElem (List.mem_range.1 hs)]
  rfl
def KF (b : Bool) (n : Nat) (k : Nat) (a : Nat) : Value := match k with
  | 0 => .slice (some ⟨a, 0, none⟩) n n
  | _ => .bool b
def KH (P : List UInt8) (n : Nat) (X : HP) (k : Nat) (a : Nat) : HP := row 5 1 (.slice (some ⟨a, 0, none⟩) n n) n (bvs P) * X
section
variable {B : Nat} {w0 : World} {R : HP}
theorem KJ_x {b : Bool} {n : Nat} {P : List UInt8} {X : HP} {j : Nat} {vs : Nat → Value} {w : World} (h : PJ B w0 X (KF b n) (KH P n X) j vs w) : ∃ Z, St B w0 w (X * Z) := by
  obtain ⟨Z, ⟨Z', rfl⟩, s⟩ := PJ.any (Y := fun Z => ∃ Z', Z = X * Z') ⟨emp, (sep_emp _).symm⟩ (fun j a => ⟨_, sep_comm _ _⟩) h
  exact ⟨Z', s⟩
set_option maxRecDepth 100000 in
set_option maxHeartbeats 16000000 in
theorem check_calls (p fb : Nat) (xs ys : List UInt8) (hg : Cd.Good xs ys) (v : Value) (L : List (List UInt8)) (n : Nat) (hL : L.length = xs.length + ys.length) (hLn : ∀ b ∈ L, b.length = n) (hn : n ≤ 64) (w : World)
    (hr : SRd B w0 R v (L.map some)) (s : St B w0 w (fx fb * (cd p fb xs ys * R))) :
    Calls Try.prog 37 #[pp p, v] w (RetG B w0 (fx fb * (cd p fb xs ys * R)) (.tuple #[.bool (okx xs ys n L ys.length), .int .i64 0])) := by
  obtain ⟨Aq, cq, hvq, rfl, hq2, hq3, hq4, hq5, hq6, hq7⟩ := id hr
  have HR := Lib.hid hr
  have HA := Lib.hid hq6
  have HU := Lib.hid hq7
  have hx1 := hg.k1
  have hx2 := hg.k2
  have hy1 := hg.r1
  have hy2 := hg.r2
  have HL := Lib.hid hL
  have HLN := Lib.hid hLn
  have hmem : ∀ b, some b ∈ L.map some → b.length = n := fun b hb => by
    obtain ⟨c, h1, h2⟩ := List.mem_map.1 hb
    cases h2
    exact hLn b h1
  have HB := Lib.hid (show lgb (L.map some) = true from lgb_all hn hmem)
  have HNN := Lib.hid (show lgn (L.map some) = (n : Int) from lgn_all hmem (b := L[0]'(by omega)) (List.mem_map.2 ⟨_, List.getElem_mem _, rfl⟩))
  have HT := Lib.hid (show thr (L.map some) (L.map some).length = List.range L.length from by rw [List.length_map]; exact thr_all)
  have HML := Lib.hid (show (L.map some).length = xs.length + ys.length from by rw [List.length_map]; exact hL)
  have HTK := Lib.hid (show BRd B w0 R (.slice Aq xs.length cq) (L.take xs.length) from by
    have h := (hr.take xs.length (by rw [List.length_map]; omega)).brd
    have e : ((L.map some).take xs.length).map (fun o => o.getD []) = L.take xs.length := by
      rw [← List.map_take, List.map_map]
      exact List.map_id _
    rw [e] at h
    exact h)
  have HPL := Lib.hid (show (L.take xs.length).length = xs.length ∧ ∀ i (h : i < (L.take xs.length).length), (L.take xs.length)[i].length = n from ⟨by rw [List.length_take]; omega, fun i h => hLn _ (List.mem_of_mem_take (List.getElem_mem h))⟩)
  have hxc : xs.length ≤ cq := by rw [List.length_map] at hq3; omega
  have hsl : ∀ w, (Instr.sliceAt 38 (.slice Aq (L.map some).length cq) none (some (.int .i64 (xs.length : Int))) none).run Try.prog w = .ok (.slice Aq xs.length cq) w := fun w =>
    (run_slice_sl tBB w Aq _ cq none (some (.int .i64 (xs.length : Int))) 0 xs.length (.inl ⟨rfl, rfl⟩) (.inr ⟨_, rfl⟩) (by omega) hxc).trans (by cases Aq <;> simp [subA, Addr.add])
  have HSL := Lib.hid hsl
  have HOK := Lib.hid (show ∀ j, j < ys.length → ∃ b, L[xs.length + j]? = some b ∧ sat (L.map some) (xs.length + j) = some b ∧ b = L.getD (xs.length + j) [] from fun j hj => by
    have h : xs.length + j < L.length := by omega
    exact ⟨L[xs.length + j], List.getElem?_eq_getElem h, by rw [sat_all, List.getElem?_eq_getElem h], by simp [List.getD, h]⟩)
  have S := Lib.hid s
  clear s
  clear hr hq6 hq7 hL hLn hmem hg hq2 hq3 hsl hxc
  generalize L.map some = l at *
  generalize hLL : L.length = z3 at *
  clear hLL
  go_enter Try.func37, Try.ntmps37
  go_wp2_with fail
  refine (size_calls p fb xs ys w (S.out.eq (sep_left_comm _ _ _))).mono ?_
  rintro e w1 ⟨rfl, s1⟩
  clear S
  have S1 := Lib.hid s1
  clear s1
  go_wp2_with fail
  refine (long_calls _ l (by have := HML.out; omega) w1 (HR.out.of (X := cd p fb xs ys * fx fb) (sep_assoc _ _ _).symm) S1.out).mono ?_
  rintro e w2 ⟨rfl, s2⟩
  clear S1
  have S2 := Lib.hid s2
  clear s2
  rw [HB.out, HNN.out]
  have h1I : (l.length : Int) = (xs.length : Int) + (ys.length : Int) := by have := HML.out; omega
  go_wp2_with fail
  refine (there_calls _ l (by have := HML.out; omega) w2 (HR.out.of (X := cd p fb xs ys * fx fb) (sep_assoc _ _ _).symm) S2.out).mono ?_
  rintro e w3 ⟨v3, rfl, s3⟩
  rw [HT.out] at s3
  obtain ⟨a3, c3, rfl, hc3, hc3m, -⟩ := s3.rowSlice
  rw [List.length_range] at s3 ⊢
  have hLI : (z3 : Int) = (xs.length : Int) + (ys.length : Int) := by have := HL.out; omega
  clear S2
  have S3 := Lib.hid (s3.right.eq (Q := fx fb * (cd p fb xs ys * R)) (by ac_rfl))
  clear s3 hc3
  go_wp2_with fail
  clear h1I hLI
  go_loopw [41] (fun ji wr => ∃ jj : Nat, jj ≤ ys.length ∧ ji = .int .i64 (jj : Int) ∧ okx xs ys n L jj = true ∧ St B w0 wr (fx fb * (cd p fb xs ys * R))) (fun ji _ => ys.length - (intOf ji).toNat)
  case atStart => exact ⟨0, Nat.zero_le _, rfl, decide_eq_true fun i h => absurd h (Nat.not_lt_zero _), S3.out⟩
  case round =>
    obtain ⟨jj, hjj, rfl, hok, s4⟩ := hrel
    clear S3
    by_cases hlt : jj < ys.length
    · have hltI : (jj : Int) < (ys.length : Int) := by omega
      obtain ⟨b, -, hb2, hb3⟩ := HOK.out jj hlt
      have hkl : xs.length + jj < l.length := by have := HML.out; omega
      rw [sat_at hkl] at hb2
      obtain ⟨u, hu1, hu2⟩ := HU.out (xs.length + jj) hkl
      rw [hb2] at hu2
      obtain ⟨⟨gu, ou, nu, cu, rfl⟩, hub⟩ := hu2
      obtain ⟨bq, oq, rfl, -⟩ := (HA.out wr (fx fb * cd p fb xs ys) (s4.eq (by ac_rfl))).at (by rintro rfl; simp at hu1)
      have HC := Lib.hid (show ∀ w H, St B w0 w (H * R) → w.cell? ⟨bq, oq + (xs.length + jj), none⟩ = some (.slice (some ⟨gu, ou, none⟩) nu cu) from fun w H s => by
        obtain ⟨b1, o1, e1, hc⟩ := (HA.out w H s).at (by rintro rfl; simp at hu1)
        cases e1
        exact hc _ _ hu1)
      have HUB := Lib.hid hub
      have hklI : (xs.length : Int) + (jj : Int) < (l.length : Int) := by omega
      obtain ⟨bb, hbb⟩ : ∃ bb, bb = decide (b = par xs ys jj n (L.take xs.length)) := ⟨_, rfl⟩
      have HBB := Lib.hid hbb
      have HOS := Lib.hid (show okx xs ys n L (jj + 1) = bb from by rw [okx_succ, hok, Bool.true_and, ← hb3, hbb])
      have HPN := Lib.hid (par_len xs ys jj n (L.take xs.length))
      have hwr : IntKind.i64.wrap ((xs.length : Int) + (jj : Int)) = (xs.length : Int) + (jj : Int) := by rw [IntKind.wrap_i64]; omega
      have HWR := Lib.hid hwr
      have HJK := Lib.hid (show ∀ i, i < jj + 1 → i < ys.length from fun i h => by omega)
      clear hbb hb2 hb3 hub hu1 hok hwr
      have S4 := Lib.hid s4
      clear s4
      go_wp2_with fail
      refine wp_region_rv [56, 57] (PJ B w0 (fx fb * (cd p fb xs ys * R)) (KF bb n) (KH (par xs ys jj n (L.take xs.length)) n (fx fb * (cd p fb xs ys * R)))) [12, 13] Gf.mixed (by kernel_rfl) (by kernel_rfl) (by kernel_rfl) (fun _ => S4.out.drew) ?_
      refine RXl.exact (.slice (some ⟨bq, oq, none⟩) l.length cq) rfl rfl rfl rfl rfl (fun _ _ _ _ _ => rfl) ?_
      refine RXl.exact (.int .i64 (xs.length : Int)) rfl rfl rfl rfl rfl (fun _ _ _ _ _ => rfl) ?_
      refine RXl.exact (.int .i64 (jj : Int)) rfl rfl rfl rfl rfl (fun _ _ _ _ _ => rfl) ?_
      refine RXl.exact (.int .i64 ((xs.length : Int) + (jj : Int))) rfl rfl rfl rfl rfl (fun j τ w' hj hJ => (by obtain ⟨vs, hv, hJ⟩ := hJ; exact (by have c := HWR.out; simp [rho, upd, Spec.val, execOp, go_sem, c]))) ?_
      refine RXl.exact (.pointer (some ⟨bq, oq + (xs.length + jj), none⟩)) rfl rfl rfl rfl rfl (fun j τ w' hj hJ => (by obtain ⟨vs, hv, hJ⟩ := hJ; exact (by have t1 : (0 : Int) ≤ (xs.length : Int) + (jj : Int) ∧ (xs.length : Int) + (jj : Int) < (l.length : Int) := (by omega); have t2 : ((xs.length : Int) + (jj : Int)).toNat = xs.length + jj := (by omega); simp [rho, upd, Spec.val, execOp, go_sem, t1, t2]))) ?_
      refine RXl.exact (.slice (some ⟨gu, ou, none⟩) nu cu) rfl rfl rfl rfl rfl (fun j τ w' hj hJ => (by obtain ⟨vs, hv, hJ⟩ := hJ; exact (by obtain ⟨Z, q⟩ := KJ_x hJ; have c := HC.out _ (fx fb * (cd p fb xs ys * Z)) (q.eq (by ac_rfl)); simp [rho, upd, Spec.val, execOp, go_sem, c]))) ?_
      refine RXl.exact (.pointer (some ⟨p, 0, none⟩)) rfl rfl rfl rfl rfl (fun _ _ _ _ _ => rfl) ?_
      refine RXl.exact (.int .i64 (jj : Int)) rfl rfl rfl rfl rfl (fun _ _ _ _ _ => rfl) ?_
      refine RXl.exact (.int .i64 (n : Int)) rfl rfl rfl rfl rfl (fun _ _ _ _ _ => rfl) ?_
      refine RXl.exact (.slice (some ⟨bq, oq, none⟩) l.length cq) rfl rfl rfl rfl rfl (fun _ _ _ _ _ => rfl) ?_
      refine RXl.exact (.int .i64 (xs.length : Int)) rfl rfl rfl rfl rfl (fun _ _ _ _ _ => rfl) ?_
      refine RXl.exact (.slice (some ⟨bq, oq, none⟩) xs.length cq) rfl rfl rfl rfl rfl (fun j τ w' hj hJ => (by obtain ⟨vs, hv, hJ⟩ := hJ; exact (exec_slice rfl (HSL.out w')))) ?_
      refine RXl.callV 0 56 rfl rfl rfl (Nat.le_of_ble_eq_true rfl) _ [.tmp 50, .tmp 51, .tmp 52, .tmp 55] _ rfl rfl rfl rfl rfl (PJ.first [.pointer (some ⟨p, 0, none⟩), .int .i64 (jj : Int), .int .i64 (n : Int), .slice (some ⟨bq, oq, none⟩) xs.length cq] (fun ρ w hag => by simp [hag.ex 50 _ rfl rfl rfl, hag.ex 51 _ rfl rfl rfl, hag.ex 52 _ rfl rfl rfl, hag.ex 55 _ rfl rfl rfl]) (fun _ => rfl) (fun w s => (parity_calls p fb xs ys jj n (.slice (some ⟨bq, oq, none⟩) xs.length cq) (L.take xs.length) hlt HPL.out.1 (by omega) (by omega) HPL.out.2 w HTK.out s).mono fun e w1 ⟨g, h1, s1⟩ => ⟨g, by rw [HPN.out] at h1; exact h1, by rw [HPN.out] at s1; exact s1⟩)) ?_
      refine RXl.callV 1 57 rfl rfl rfl (Nat.le_of_ble_eq_true rfl) _ [.tmp 49, .tmp 56] _ rfl rfl rfl rfl rfl (PJ.call (fun a => [.slice (some ⟨gu, ou, none⟩) nu cu, .slice (some ⟨a, 0, none⟩) n n]) (fun ρ a w h hag => by have e := h 0 56 (by decide) rfl; simp [hag.ex 49 _ rfl rfl rfl, e, KF]) (fun _ _ => rfl) (fun a w s => (equal_calls _ _ b (par xs ys jj n (L.take xs.length)) w (HUB.out w (row 5 1 (.slice (some ⟨a, 0, none⟩) n n) n (bvs (par xs ys jj n (L.take xs.length))) * (fx fb * cd p fb xs ys)) (St.eq (by unfold KH; ac_rfl) s)) (St.bs (show St B w0 w (row 5 1 (.slice (some ⟨a, 0, none⟩) n n) n (bvs (par xs ys jj n (L.take xs.length))) * (fx fb * (cd p fb xs ys * R))) from s))).mono fun e w1 ⟨h1, h2⟩ => ⟨a, by rw [h1, ← HBB.out]; rfl, fun k hk => (by match k, hk with | 0, _ => rfl), by subst h2; exact s⟩)) ?_
      refine RXl.value (.ex (.bool (!bb))) (Free.ex _) rfl rfl rfl rfl (fun ρ w' j hj hI hag => ⟨_, (by obtain ⟨a, e⟩ := PJ.val (hag.so 57 _ rfl rfl rfl); simp [execOp, go_sem, e, KF]), rfl⟩) ?_
      refine RXl.nilV _ (AgrL.upd _ _ (AgrL.unk 57 _ rfl (AgrL.unk 56 _ rfl (AgrL.upd _ _ (AgrL.upd _ _ (AgrL.upd _ _ (AgrL.upd _ _ (AgrL.upd _ _ (AgrL.upd _ _ (AgrL.upd _ _ (AgrL.upd _ _ (AgrL.upd _ _ (AgrL.upd _ _ (AgrL.upd _ _ (AgrL.upd _ _ (AgrL.base _)))))))))))))))) (by decide) (by decide) fun vs w5 hJ => ?_
      simp only [puts, Act.put, List.setIfInBounds_toArray, List.set_cons_succ, List.set_cons_zero]
      obtain ⟨g, hv, s5⟩ := hJ
      rw [show vs 0 = KF bb n 0 g from hv 0 (by decide), show vs 1 = .bool bb from hv 1 (by decide)]
      have S5 := Lib.hid (St.right (show St B w0 w5 (row 5 1 (.slice (some ⟨g, 0, none⟩) n n) n (bvs (par xs ys jj n (L.take xs.length))) * (fx fb * (cd p fb xs ys * R))) from s5))
      clear hv s5 S4 HBB
      cases bb with
      | true =>
        go_wp2_with fail
        go_roundw
        case rel => exact ⟨jj + 1, by omega, by go_num, HOS.out, S5.out⟩
        case measure => simp [intOf]; omega
      | false =>
        have HFF := Lib.hid (show okx xs ys n L ys.length = false from by
          have h := HOS.out
          unfold okx at h ⊢
          rw [decide_eq_false_iff_not] at h ⊢
          exact fun h2 => h fun i hi => h2 i (HJK.out i hi))
        go_wp2_with fail
        go_ret2
        exact ⟨by rw [HFF.out]; rfl, S5.out⟩
    · obtain rfl : jj = ys.length := by omega
      have HOS := Lib.hid hok
      clear hok
      have S4 := Lib.hid s4
      clear s4
      go_wp2_with fail
      go_ret2
      exact ⟨by rw [HOS.out]; rfl, S4.out⟩
set_option maxRecDepth 100000 in
set_option maxHeartbeats 4000000 in
theorem sclone_x {X R0 : HP} (he : R = X * R0) (v : Value) (l : Shs) (hl : 1 ≤ l.length) (hl2 : l.length ≤ 1000) (w : World) (hr : SRd B w0 R0 v l) (s : St B w0 w R) :
    Calls Try.prog 60 #[v] w fun e w' => ∃ g c hvs, e = .returned (.slice (some ⟨g, 0, none⟩) l.length c) ∧ hvs.length = l.length ∧ (∀ i (h : i < l.length), ∃ u, hvs[i]? = some u ∧ SR B w0 R0 u l[i]) ∧ St B w0 w' (row 32 1 (.slice (some ⟨g, 0, none⟩) l.length c) l.length hvs * R) := by
  obtain ⟨A, c, hvs, rfl, h1, h2, h3, h4, h5, h6⟩ := hr
  have hrd := h5 w X (s.eq he)
  obtain ⟨bA, oA, rfl, -⟩ := hrd.at (by rintro rfl; simp at h1; omega)
  have hn := fun w => Lib.run_eql_slice_nil (P := Try.prog) w 38 32 (some ⟨bA, oA, none⟩) l.length c 0 0 Try.underlying38
  have h1c : ∀ u ∈ hvs, u.oneCell' = true := fun u hu => by
    obtain ⟨i, hi, rfl⟩ := List.getElem_of_mem hu
    obtain ⟨u, e1, e2⟩ := h6 i (by omega)
    rw [List.getElem?_eq_getElem hi] at e1
    cases e1
    cases ho : l[i]'(by omega) with
    | none => rw [ho] at e2; rw [show hvs[i] = .slice none 0 0 from e2]; rfl
    | some b => rw [ho] at e2; obtain ⟨⟨g, o, n, c, e⟩, -⟩ := e2; rw [e]; rfl
  have H1C := Lib.hid h1c
  have s0 := Lib.hid (s.alloc (.cells #[] 32))
  have HRD := Lib.hid (h5 _ (pts w.heap.size (.cells #[] 32) * X) (s0.out.eq (by rw [he, sep_assoc])))
  have H1 := Lib.hid h1
  have H6 := Lib.hid h6
  clear h1 h4 h5 h6 h1c hrd s
  go_enter Try.func60, Try.ntmps60
  go_wp2_with (at_builtin; go_must (refine wpl_append rfl _ _ rfl tBB (s0.out.rowMk (n := 0) (cap := 0) (xs := []) (Nat.le_refl _) (Nat.zero_le _) (by simp) rfl) (some ⟨bA, oA, none⟩) l.length c hvs rfl rfl HRD.out (fun e => by cases e) (by rw [H1.out, Nat.mul_one]) H1C.out (by unfold maxLen; omega) (by omega) ?_); intro v' w' s2 hv; rw [List.nil_append, Nat.zero_add] at s2; obtain ⟨g7, c7, rfl, -⟩ := s2.rowCells (by omega); have S2 := Lib.hid s2; clear s2 hv s0)
  go_ret
  exact ⟨g7, c7, hvs, rfl, H1.out, H6.out, S2.out⟩
set_option maxRecDepth 100000 in
set_option maxHeartbeats 16000000 in
theorem rebuild_ok (p fb : Nat) (xs ys : List UInt8) (hg : Cd.Good xs ys) (v : Value) (l : Shs) (i : Nat) (hi : i < xs.length + ys.length) (hl : l.length = xs.length + ys.length) (hb : lgb l = true) (n : Nat) (hb2 : lgb (l.set i none) = true) (hn : lgn (l.set i none) = (n : Int)) (hn2 : n ≤ 64) (hln : ∀ s b, sat (l.set i none) s = some b → b.length = n)
    (ht : xs.length ≤ (thr (l.set i none) (l.set i none).length).length) (w : World) (hr : SRd B w0 R v l) (s : St B w0 w (fx fb * (cd p fb xs ys * R))) :
    Calls Try.prog 38 #[pp p, v, .int .i64 (i : Int)] w fun e w' => ∃ A Bk v' vs u, gj xs.length (Fm xs ys (fr0 xs.length (l.set i none))) xs.length = some (A, Bk) ∧ e = .returned (.tuple #[u, .int .i64 0]) ∧ vs.length = xs.length + ys.length ∧ NN vs ∧ vs[i]? = some u ∧
      St B w0 w' (ob v' vs (dec xs ys Bk (l.set i none) n) * (fx fb * (cd p fb xs ys * R))) := by
  obtain ⟨Aq, cq, hvq, rfl, hq2, hq3, hq4, hq5, hq6, hq7⟩ := id hr
  have HR := Lib.hid hr
  have hx1 := hg.k1
  have hx2 := hg.k2
  have hy1 := hg.r1
  have hy2 := hg.r2
  have HG := Lib.hid hg
  have HL := Lib.hid hl
  have HB := Lib.hid hb
  have HDK := Lib.hid (And.intro hb2 (And.intro hn (And.intro hln ht)))
  have hiI : (i : Int) < (xs.length : Int) + (ys.length : Int) := by omega
  have S := Lib.hid s
  clear s
  clear hr hq6 hq7 hl hb hb2 hn hln ht hg hq2 hq3
  go_enter Try.func38, Try.ntmps38
  go_wp2_with fail
  refine (size_calls p fb xs ys w (S.out.eq (sep_left_comm _ _ _))).mono ?_
  rintro e w1 ⟨rfl, s1⟩
  clear S
  have S1 := Lib.hid s1
  clear s1
  go_wp2_with fail
  refine (long_calls _ l (by have := HL.out; omega) w1 (HR.out.of (X := cd p fb xs ys * fx fb) (sep_assoc _ _ _).symm) S1.out).mono ?_
  rintro e w2 ⟨rfl, s2⟩
  clear S1
  have S2 := Lib.hid s2
  clear s2
  rw [HB.out]
  have h1I : (l.length : Int) = (xs.length : Int) + (ys.length : Int) := by have := HL.out; omega
  generalize lgn l = z at *
  go_wp2_with fail
  refine (sclone_x (X := cd p fb xs ys * fx fb) (sep_assoc _ _ _).symm _ l (by have := HL.out; omega) (by have := HL.out; omega) w2 HR.out S2.out).mono ?_
  rintro e w3 ⟨g3, c3, hvs, rfl, hh1, hh2, s3⟩
  clear S2
  have hil : i < l.length := by have := HL.out; omega
  obtain ⟨-, -, -, -, hc3, hf3, hs3⟩ := s3.row1
  have c30 := hc3 i hil
  obtain ⟨u3, hu3, -⟩ := hh2 i hil
  rw [hu3] at c30
  have f30 := hf3 i
  have s4 := hs3 i (.slice none 0 0) hil
  have hilI : (i : Int) < (l.length : Int) := by omega
  have HH2X := Lib.hid hh2
  have HSD := Lib.hid (show SRd B w0 (row 32 1 (.slice (some ⟨g3, 0, none⟩) l.length c3) l.length (hvs.set i (.slice none 0 0)) * R) (.slice (some ⟨g3, 0, none⟩) l.length c3) (l.set i none) from by
    have s5 := s4.eq (Q := (cd p fb xs ys * fx fb) * (row 32 1 (.slice (some ⟨g3, 0, none⟩) l.length c3) l.length (hvs.set i (.slice none 0 0)) * R)) (by ac_rfl)
    refine srd_row (by rw [List.length_set]) (by rw [List.length_set, List.length_set]; exact hh1) s5.right fun j hj => ?_
    rw [List.length_set] at hj
    by_cases e : i = j
    · subst e
      exact ⟨.slice none 0 0, by rw [List.getElem?_set_self (by omega)], by simp; exact sr_nil⟩
    · obtain ⟨u, e1, e2⟩ := HH2X.out j hj
      exact ⟨u, by rw [List.getElem?_set_ne e]; exact e1, by rw [List.getElem_set_ne e]; exact e2⟩)
  have S4 := Lib.hid (s4.eq (Q := fx fb * (cd p fb xs ys * (row 32 1 (.slice (some ⟨g3, 0, none⟩) l.length c3) l.length (hvs.set i (.slice none 0 0)) * R))) (by ac_rfl))
  clear hc3 hf3 hs3 hh1 hh2 hu3 s3 s4 hil
  go_wp2_with fail
  refine (decode_ok p fb xs ys HG.out (.slice (some ⟨g3, 0, none⟩) l.length c3) (l.set i none) (by rw [List.length_set]; exact HL.out) HDK.out.1 n HDK.out.2.1 hn2 HDK.out.2.2.1 HDK.out.2.2.2 _ HSD.out S4.out).mono ?_
  rintro e w5 ⟨A, Bk, v5, vs5, hgj, rfl, hvs5, hnn5, s5⟩
  have HGJ := Lib.hid (And.intro hgj (And.intro hvs5 hnn5))
  have hdl : (dec xs ys Bk (l.set i none) n).length = xs.length + ys.length := by unfold dec; rw [List.length_append, dt_len, px_len]
  have hi5 : i < vs5.length := by rw [hvs5]; exact hi
  have hu5 : vs5[i]? = some vs5[i] := List.getElem?_eq_getElem hi5
  obtain ⟨g5, c5, e5, -⟩ := (ob_row s5).rowCells (by omega)
  rw [hdl] at e5
  subst e5
  have c50 := ob_cell s5 (by rw [hdl]; exact hi) hu5
  have HU5 := Lib.hid hu5
  generalize vs5[i] = u5 at *
  have S5 := Lib.hid (s5.eq (Q := row 32 1 (.slice (some ⟨g3, 0, none⟩) l.length c3) l.length (hvs.set i (.slice none 0 0)) * (ob (.slice (some ⟨g5, 0, none⟩) (xs.length + ys.length) c5) vs5 (dec xs ys Bk (l.set i none) n) * (fx fb * (cd p fb xs ys * R)))) (by ac_rfl)).right
  clear S4 s5 hgj hvs5 hnn5 hi5 hu5 hdl
  go_wp2_with fail
  go_ret2
  exact ⟨A, Bk, _, vs5, u5, HGJ.out.1, rfl, HGJ.out.2.1, HGJ.out.2.2, HU5.out, S5.out⟩
end
end Go.Proofs.Ytjnfhppjkadlpaa.Cd
