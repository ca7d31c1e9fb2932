/- BayScans, walked. -/
import Derived.Test.YtmilfilmhkpjoaaBayS
import Derived.Test.YtmilfilmhkpjoaaBayL1
import Derived.Test.YtmilfilmhkpjoaaRey
namespace Go.Proofs.Ytmilfilmhkpjoaa.BayW
open Go Go.RowKit Go.Proofs.Ytmilfilmhkpjoaa Go.Proofs.Ytmilfilmhkpjoaa.Sp Go.Proofs.Ytmilfilmhkpjoaa.Reg Go.Proofs.Ytmilfilmhkpjoaa.SlW Go.Proofs.Ytmilfilmhkpjoaa.Fus Go.Proofs.Ytmilfilmhkpjoaa.Rd Go.Proofs.Ytmilfilmhkpjoaa.DskW Go.Proofs.Ytmilfilmhkpjoaa.FrmW
/-- The ids, the chunks. -/
def idn (ns : List Int) (i : Nat) : Nat := (ns.getD i 0 % 16777216).toNat
theorem idn_lt (ns : List Int) (i : Nat) : idn ns i < 16777216 := by unfold idn; omega
theorem idn_eq {ns : List Int} {i : Nat} (h : i < ns.length) : bits .and .i64 ns[i] 16777215 = (idn ns i : Int) := by
  rw [and_m24]
  unfold idn
  rw [List.getD_eq_getElem?_getD, List.getElem?_eq_getElem h, Option.getD_some]
  omega
def fi (ns : List Int) (i : Nat) : List UInt8 := frm (idn ns i) (List.replicate i 0)
def fs (ns : List Int) (k : Nat) : List (List UInt8) := (List.range k).map (fi ns)
theorem fs_len (ns : List Int) (k : Nat) : (fs ns k).length = k := by simp [fs]
theorem fs_succ (ns : List Int) (k : Nat) : fs ns (k + 1) = fs ns k ++ [fi ns k] := by unfold fs; rw [List.range_succ, List.map_append]; rfl
theorem fi_len (ns : List Int) {i : Nat} (h : i ≤ 64) : (fi ns i).length = 96 := frm_len _ _ (by simpa using h)
/-- What is drawn in the first loop: the noughts that are made, the write's answer. -/
def SF (i : Nat) (k : Nat) (a : Nat) : Value := match k with
  | 0 => .slice (some ⟨a, 0, none⟩) i i
  | _ + 1 => .int .i64 0
def SH (b : Nat) (pd : Value) (g c : Nat) (us : List Bool) (ns : List Int) (i : Nat) (k : Nat) (a : Nat) : HP := match k with
  | 0 => row 5 1 (.slice (some ⟨a, 0, none⟩) i i) i (bvs (List.replicate i 0)) * (bay b pd g c us * (dk pd (.pointer none) (DN (fs ns i)) * emp))
  | _ + 1 => row 5 1 (.slice (some ⟨a, 0, none⟩) i i) i (bvs (List.replicate i 0)) * (bay b pd g c us * (dk pd (.pointer none) (DN (fs ns (i + 1))) * emp))
/-- A chunk with one bit turned; the disk behind so many rounds of the second loop. -/
def tf (ns : List Int) (i : Nat) : List UInt8 := (fi ns i).set 5 ((fi ns i).getD 5 0 ^^^ 16)
def sb (sp : Int) (i : Nat) : Bool := decide (bits .and .u64 (sp / 2 ^ i) 1 = 1)
def gs (ns : List Int) (sp : Int) (n k : Nat) : List (List UInt8) := (List.range n).map fun i => if i < k ∧ sb sp i = true then tf ns i else fi ns i
theorem gs_zero (ns : List Int) (sp : Int) (n : Nat) : gs ns sp n 0 = fs ns n := by
  unfold gs fs
  refine List.map_congr_left fun i _ => ?_
  rw [if_neg (fun h => absurd h.1 (Nat.not_lt_zero i))]
theorem gs_len (ns : List Int) (sp : Int) (n k : Nat) : (gs ns sp n k).length = n := by simp [gs]
theorem gs_no {ns : List Int} {sp : Int} {n k : Nat} (h : sb sp k = false) : gs ns sp n (k + 1) = gs ns sp n k := by
  unfold gs
  refine List.map_congr_left fun i _ => ?_
  by_cases h1 : i < k ∧ sb sp i = true
  · rw [if_pos h1, if_pos ⟨by omega, h1.2⟩]
  · rw [if_neg h1]
    by_cases h2 : i = k
    · subst h2
      rw [if_neg (fun q => by rw [h] at q; cases q.2)]
    · rw [if_neg (fun q => h1 ⟨by omega, q.2⟩)]
theorem gs_yes {ns : List Int} {sp : Int} {n k : Nat} (hk : k < n) (h : sb sp k = true) : gs ns sp n (k + 1) = (gs ns sp n k).set k (tf ns k) := by
  refine List.ext_getElem (by simp [gs]) fun j h1 h2 => ?_
  rw [List.getElem_set]
  simp only [gs, List.getElem_map, List.getElem_range]
  by_cases e : k = j
  · subst e
    rw [if_pos rfl, if_pos ⟨Nat.lt_succ_self k, h⟩]
  · rw [if_neg e]
    by_cases h3 : j < k ∧ sb sp j = true
    · rw [if_pos h3, if_pos ⟨by omega, h3.2⟩]
    · rw [if_neg h3, if_neg (fun q => h3 ⟨by omega, q.2⟩)]
theorem gs_at {ns : List Int} {sp : Int} {n k : Nat} (hk : k < n) : (gs ns sp n k)[k]'(by rw [gs_len]; exact hk) = fi ns k := by
  unfold gs
  rw [List.getElem_map, List.getElem_range, if_neg (fun q => absurd q.1 (Nat.lt_irrefl k))]
theorem swr {B : Nat} {w0 : World} (b bk0 g c : Nat) (us : List Bool) (ns : List Int) (k a : Nat) (w : World) (hk : k < us.length) (hu : us.getD k false = true) (h8 : k < 8)
    (s : St B w0 w (SH b (.pointer (some ⟨bk0, 0, none⟩)) g c us ns k 0 a)) :
    Calls Try.prog 20 #[.pointer (some ⟨b, 0, none⟩), .int .i64 k, .int .i64 (idn ns k : Int), .slice (some ⟨a, 0, none⟩) k k] w fun e w' => ∃ a', e = .returned (SF k 1 a') ∧ (∀ k', k' < 1 → SF k k' a' = SF k k' a) ∧ St B w0 w' (SH b (.pointer (some ⟨bk0, 0, none⟩)) g c us ns k 1 a') := by
  have hl : (List.replicate k (0 : UInt8)).length = k := List.length_replicate
  have q := bwrite_calls b g c (.pointer (some ⟨bk0, 0, none⟩)) us (DN (fs ns k)) k (idn ns k) hk hu (by have := idn_lt ns k; omega) (some ⟨a, 0, none⟩) k (List.replicate k 0) (by rw [hl]; omega) (by unfold DN; simp [fs_len]; omega) w
    (R := row 5 1 (.slice (some ⟨a, 0, none⟩) k k) k (bvs (List.replicate k 0)) * emp)
    (fun w H s => by rw [hl]; exact (s.eq (Q := row 5 1 (.slice (some ⟨a, 0, none⟩) k k) k (bvs (List.replicate k 0)) * (H * emp)) (by ac_rfl)).bs)
    (St.eq (by show _ * _ = _; ac_rfl) s)
  have hw := dn_write (fs ns k) (frm (idn ns k) (List.replicate k 0)) (frm_len _ _ (by rw [hl]; omega)) (by rw [fs_len]; exact h8)
  rw [fs_len] at hw
  rw [hw, hl] at q
  refine q.mono ?_
  rintro e w' ⟨rfl, s'⟩
  refine ⟨a, rfl, fun _ _ => rfl, ?_⟩
  show St B w0 w' (_ * (_ * (dk _ _ (DN (fs ns (k + 1))) * emp)))
  rw [fs_succ]
  exact St.eq (by show _ = _; unfold fi; ac_rfl) s'
theorem sc_read {ns : List Int} {sp : Int} {n i : Nat} (h : i < n) (h8 : n ≤ 8) : dRead (DN (gs ns sp n n)) (i : Int) = if sb sp i = true then tf ns i else fi ns i := by
  rw [dn_read _ i (by omega) (by rw [gs_len]; exact h8), dif_pos (by rw [gs_len]; exact h)]
  unfold gs
  rw [List.getElem_map, List.getElem_range]
  by_cases e : sb sp i = true
  · rw [if_pos ⟨h, e⟩, if_pos e]
  · rw [if_neg (fun q => e q.2), if_neg e]
theorem fi_good (ns : List Int) {i : Nat} (h : i ≤ 64) : good (fi ns i) := good_frm _ (by have := idn_lt ns i; omega) _ (by simpa using h)
theorem tf_bad (ns : List Int) {i : Nat} (h : i ≤ 64) : ¬ good (tf ns i) := by
  have q := bit_bad (fi_good ns h) 5 4 (by omega) (by omega)
  have e : (fi ns i)[5]'(by rw [fi_len ns h]; omega) = (fi ns i).getD 5 0 := by
    have := fi_len ns h
    simp [List.getD, show 5 < (fi ns i).length by omega]
  rw [e] at q
  exact q
theorem sc_yes {ns : List Int} {sp : Int} {n i : Nat} (h : i < n) (h8 : n ≤ 8) (hs : sb sp i = false) : good (dRead (DN (gs ns sp n n)) (i : Int)) ∧ dec (dRead (DN (gs ns sp n n)) (i : Int)) 4 = idn ns i ∧ (dat (dRead (DN (gs ns sp n n)) (i : Int))).length = i := by
  rw [sc_read h h8, if_neg (by rw [hs]; decide)]
  refine ⟨fi_good ns (by omega), ?_, ?_⟩
  · unfold fi
    rw [dec_frm _ (by have := idn_lt ns i; omega)]
  · unfold fi
    rw [dat_frm _ _ (by simp; omega)]
    simp
theorem sc_no {ns : List Int} {sp : Int} {n i : Nat} (h : i < n) (h8 : n ≤ 8) (hs : sb sp i = true) : ¬ good (dRead (DN (gs ns sp n n)) (i : Int)) := by
  rw [sc_read h h8, if_pos hs]
  exact tf_bad ns (by omega)
theorem sc_end (ns : List Int) (sp : Int) {n : Nat} (h8 : n ≤ 8) : chs (DN (gs ns sp n n)) 8 = chs (DN (gs ns sp n n)) n := by
  have q := chs_end (D := DN (gs ns sp n n)) (n := n) (8 - n) (fun k h1 h2 => by
    rw [dn_read _ k (by omega) (by rw [gs_len]; exact h8), dif_neg (by rw [gs_len]; omega)]
    exact blk_bad)
  rwa [show n + (8 - n) = 8 by omega] at q
set_option maxRecDepth 100000 in
set_option maxHeartbeats 16000000 in
theorem scans_in (a : Option Addr) (ca : Nat) (ns : List Int) (gv sp : Int) (n : Nat) (hn : n = min ns.length 8) (w0 : World) (HP : Hid (IS w0 (.slice a ns.length ca) ns)) :
    Calls Try.prog 6 #[.slice a ns.length ca, .int .u64 gv, .int .u64 sp] w0 fun e w' => e = .returned (.bool true) ∧ Below w0.heap.size w0 w' := by
  have m2 := fun w : World => run_min2 (P := Try.prog) w .i64 #[3, 3] 3 (ns.length : Int) 8
  have hmn : min (ns.length : Int) 8 = (n : Int) := by omega
  rw [hmn] at m2
  have hnl : n ≤ ns.length := by omega
  have hn8 : n ≤ 8 := by omega
  clear hmn hn
  go_enter Try.func6, Try.ntmps6
  go_wp2_with fail
  refine (DskW.new_calls 8 none w0 (St.init w0)).mono ?_
  rintro e w1 ⟨pd, rfl, s⟩
  have hD : Dk.new 8 = DN (fs ns 0) := rfl
  rw [hD] at s
  have S := Lib.hid s
  clear s hD
  go_wp2_with fail
  refine (BayW.new_calls (DN (fs ns 0)) pd _ (by show (List.replicate 8 blk0).length ≤ 64; simp) _ S.out).mono ?_
  rintro e w2 ⟨b, g, c, rfl, s⟩
  rw [show List.replicate (DN (fs ns 0)).lasts.length false = List.replicate 8 false from rfl] at s
  clear S
  obtain ⟨bk0, _, _, _, _, hpd, -⟩ := dk_open (s.right)
  subst hpd
  have S := Lib.hid s
  clear s
  go_wp2_with fail
  have S2 := Lib.hid (show St w0.heap.size w0 w2 (bay b (.pointer (some ⟨bk0, 0, none⟩)) g c (fill (List.replicate 8 false) 0) * (dk (.pointer (some ⟨bk0, 0, none⟩)) (.pointer none) (DN (fs ns 0)) * emp)) from S.out)
  clear S m2
  go_loopw [10] (fun i wr => ∃ k : Nat, k ≤ n ∧ i = .int .i64 k ∧ St w0.heap.size w0 wr (bay b (.pointer (some ⟨bk0, 0, none⟩)) g c (fill (List.replicate 8 false) k) * (dk (.pointer (some ⟨bk0, 0, none⟩)) (.pointer none) (DN (fs ns k)) * emp))) (fun i _ => n - (intOf i).toNat)
  case atStart => exact ⟨0, Nat.zero_le _, rfl, S2.out⟩
  case round =>
    obtain ⟨k, hk, rfl, s⟩ := hrel
    clear S2
    by_cases hlt : k < n
    · have hl1 : (fill (List.replicate 8 false) k).length = 8 := by rw [fill_len (by rw [List.length_replicate]; omega), List.length_replicate]
      have q := take_calls b g c (.pointer (some ⟨bk0, 0, none⟩)) (fill (List.replicate 8 false) k) (by rw [hl1]; omega) _ s
      unfold TkP at q
      rw [tk_some (k := k) (by rw [hl1]; omega) (by rw [fill_at, List.getD_eq_getElem?_getD, List.getElem?_replicate]; split <;> rfl) fun j hj => fill_lt hj] at q
      have Q := Lib.hid q
      have HFS := Lib.hid (fill_set (us := List.replicate 8 false) (k := k) (by rw [List.length_replicate]; omega))
      clear s q hl1
      go_wp2_with fail
      refine Q.out.mono ?_
      rintro e w3 ⟨rfl, sq⟩
      rw [HFS.out] at sq
      have S := Lib.hid sq
      clear sq Q HFS
      go_wp2_with fail
      obtain ⟨ab, off, rfl⟩ := HP.out.head (by omega)
      have hkn : k < ns.length := by omega
      have g1 : (k : Int) < (ns.length : Int) := by omega
      have HI := Lib.hid (idn_eq hkn)
      have HU := Lib.hid (show (fill (List.replicate 8 false) (k + 1)).length = 8 ∧ (fill (List.replicate 8 false) (k + 1)).getD k false = true from ⟨by rw [fill_len (by rw [List.length_replicate]; omega), List.length_replicate], fill_lt (Nat.lt_succ_self k)⟩)
      obtain ⟨us, hus⟩ : ∃ us, fill (List.replicate 8 false) (k + 1) = us := ⟨_, rfl⟩
      rw [hus] at S HU
      have HUS := Lib.hid hus
      clear hus
      have LC := Lib.hid fun (j : Nat) (vs : Nat → Value) (w' : World) (h : PJ w0.heap.size w0 (bay b (.pointer (some ⟨bk0, 0, none⟩)) g c us * (dk (.pointer (some ⟨bk0, 0, none⟩)) (.pointer none) (DN (fs ns k)) * emp)) (SF k) (SH b (.pointer (some ⟨bk0, 0, none⟩)) g c us ns k) j vs w') =>
        show w'.cell? ⟨ab, off + k, none⟩ = some (.int .i64 ns[k]) from by
          obtain ⟨Z, -, y⟩ := PJ.any (Y := fun _ => True) trivial (fun _ _ => trivial) h
          exact (HP.out.st rfl y).cellAt k hkn
      refine wp_region_rv [50, 51] (PJ w0.heap.size w0 (bay b (.pointer (some ⟨bk0, 0, none⟩)) g c us * (dk (.pointer (some ⟨bk0, 0, none⟩)) (.pointer none) (DN (fs ns k)) * emp)) (SF k) (SH b (.pointer (some ⟨bk0, 0, none⟩)) g c us ns k)) [11, 12] mixed (by kernel_rfl) (by kernel_rfl) (by kernel_rfl) (fun _ => S.out.drew) ?_
      refine RXl.exact (.bool true) rfl rfl rfl rfl rfl (fun _ _ _ _ _ => rfl) ?_
      refine RXl.exact (.bool false) rfl rfl rfl rfl rfl (fun j τ w' hj hJ => (by obtain ⟨vs, hv, hJ⟩ := hJ; exact (by simp [rho, upd, Spec.val, execOp, go_sem]))) ?_
      refine RXl.exact (.bool false) rfl rfl rfl rfl rfl (fun _ _ _ _ _ => rfl) ?_
      refine RXl.exact (.pointer (some ⟨b, 0, none⟩)) rfl rfl rfl rfl rfl (fun _ _ _ _ _ => rfl) ?_
      refine RXl.exact (.int .i64 (k : Int)) rfl rfl rfl rfl rfl (fun _ _ _ _ _ => rfl) ?_
      refine RXl.exact (.slice (some ⟨ab, off, none⟩) ns.length ca) rfl rfl rfl rfl rfl (fun _ _ _ _ _ => rfl) ?_
      refine RXl.exact (.int .i64 (k : Int)) rfl rfl rfl rfl rfl (fun _ _ _ _ _ => rfl) ?_
      refine RXl.exact (.pointer (some ⟨ab, off + k, none⟩)) rfl rfl rfl rfl rfl (fun j τ w' hj hJ => (by obtain ⟨vs, hv, hJ⟩ := hJ; exact (by simp [rho, upd, Spec.val, execOp, go_sem, g1]))) ?_
      refine RXl.exact (.int .i64 ns[k]) rfl rfl rfl rfl rfl (fun j τ w' hj hJ => (by obtain ⟨vs, hv, hJ⟩ := hJ; exact (by have c := LC.out _ _ _ hJ; simp [rho, upd, Spec.val, execOp, go_sem, c]))) ?_
      refine RXl.exact (.int .i64 (idn ns k : Int)) rfl rfl rfl rfl rfl (fun j τ w' hj hJ => (by obtain ⟨vs, hv, hJ⟩ := hJ; exact (by have c := HI.out; simp [rho, upd, Spec.val, execOp, go_sem, c]))) ?_
      refine RXl.exact (.int .i64 (k : Int)) rfl rfl rfl rfl rfl (fun _ _ _ _ _ => rfl) ?_
      refine RXl.effV 0 50 rfl rfl rfl (Nat.le_of_ble_eq_true rfl) rfl rfl rfl rfl (PJ.firstOp (fun ρ w hag s => by obtain ⟨r1, r2⟩ := run_makeSlice_st (P := Try.prog) tB .i64 .i64 k k (Nat.le_refl _) (by unfold maxLen; omega) (by omega) s; exact ⟨w.heap.size, w.alloc (.cells (madeCells (Value.int .u8 0).cells (k * 1)) 5), by simp [execOp, hag.ex 49 _ rfl rfl rfl, r1, Result.andThen, SF], by have r3 := r2.rowMade (n := k) rfl (Nat.le_refl _) (by unfold maxLen; omega); rw [bvs_zeros] at r3; exact r3⟩)) ?_
      refine RXl.callV 1 51 rfl rfl rfl (Nat.le_of_ble_eq_true rfl) _ [.tmp 42, .tmp 43, .tmp 48, .tmp 50] _ rfl rfl rfl rfl rfl (PJ.call (fun a => [.pointer (some ⟨b, 0, none⟩), .int .i64 k, .int .i64 (idn ns k : Int), .slice (some ⟨a, 0, none⟩) k k]) (fun ρ a w h hag => by have e := h 0 50 (by decide) rfl; simp [hag.ex 42 _ rfl rfl rfl, hag.ex 43 _ rfl rfl rfl, hag.ex 48 _ rfl rfl rfl, e, SF]) (fun _ _ => rfl) (fun a w s => swr b bk0 g c us ns k a w (by have := HU.out.1; omega) HU.out.2 (by omega) s)) ?_
      refine RXl.value (.ex (.bool false)) (Free.ex _) rfl rfl rfl rfl (fun ρ w' j hj hI hag => ⟨_, (by obtain ⟨a, e⟩ := PJ.val (hag.so 51 _ rfl rfl rfl); simp [execOp, go_sem, e, SF, hag.2.1]), rfl⟩) ?_
      refine RXl.exact (.bool false) rfl rfl rfl rfl rfl (fun _ _ _ _ _ => rfl) ?_
      refine RXl.nilV _ (AgrL.upd _ _ (AgrL.upd _ _ (AgrL.unk 51 _ rfl (AgrL.unk 50 _ rfl (AgrL.upd _ _ (AgrL.upd _ _ (AgrL.upd _ _ (AgrL.upd _ _ (AgrL.upd _ _ (AgrL.upd _ _ (AgrL.upd _ _ (AgrL.upd _ _ (AgrL.upd _ _ (AgrL.upd _ _ (AgrL.upd _ _ (AgrL.base _)))))))))))))))) (by decide) (by decide) fun vs w8 hJ => ?_
      simp only [puts, Act.put, List.setIfInBounds_toArray, List.set_cons_succ, List.set_cons_zero]
      obtain ⟨a9, hv, s9⟩ := hJ
      rw [show vs 0 = SF k 0 a9 from hv 0 (by decide), show vs 1 = .int .i64 0 from hv 1 (by decide)]
      generalize SF k 0 a9 = y0
      clear S LC hv vs
      have s9 : St w0.heap.size w0 w8 (row 5 1 (.slice (some ⟨a9, 0, none⟩) k k) k (bvs (List.replicate k 0)) * (bay b (.pointer (some ⟨bk0, 0, none⟩)) g c us * (dk (.pointer (some ⟨bk0, 0, none⟩)) (.pointer none) (DN (fs ns (k + 1))) * emp))) := s9
      rw [← HUS.out] at s9
      have S := Lib.hid s9.right
      clear s9
      go_wp2_with fail
      go_roundw
      case rel => exact ⟨k + 1, by omega, by go_num, S.out⟩
      case measure => simp [intOf]; omega
    · have e9 : n = k := by omega
      subst e9
      have S := Lib.hid (show St w0.heap.size w0 wr (bay b (.pointer (some ⟨bk0, 0, none⟩)) g c (fill (List.replicate 8 false) n) * (dk (.pointer (some ⟨bk0, 0, none⟩)) (.pointer none) (DN (gs ns sp n 0)) * emp)) from by rw [gs_zero]; exact s)
      have HM := Lib.hid (show ∀ j, 0 ≤ j → j < n → (fill (List.replicate 8 false) n).getD j false = true from fun j _ hj => fill_lt hj)
      have HU := Lib.hid (show (fill (List.replicate 8 false) n).length = 8 from by rw [fill_len (by rw [List.length_replicate]; omega), List.length_replicate])
      generalize fill (List.replicate 8 false) n = us0 at S HM HU
      clear s
      go_wp2_with fail
      go_loopw [13] (fun i wr => ∃ (k : Nat) (us : List Bool), k ≤ n ∧ us.length = 8 ∧ (∀ j, k ≤ j → j < n → us.getD j false = true) ∧ i = .int .i64 k ∧ St w0.heap.size w0 wr (bay b (.pointer (some ⟨bk0, 0, none⟩)) g c us * (dk (.pointer (some ⟨bk0, 0, none⟩)) (.pointer none) (DN (gs ns sp n k)) * emp))) (fun i _ => n - (intOf i).toNat)
      case atStart => exact ⟨0, us0, Nat.zero_le _, HU.out, HM.out, rfl, S.out⟩
      case round =>
        obtain ⟨k, us, hk, hu, hm, rfl, s⟩ := hrel
        clear S HM HU
        have HMM := Lib.hid hm
        have S := Lib.hid s
        clear s hm
        by_cases hlt : k < n
        · skip
          by_cases hg : bits .and .u64 (gv / 2 ^ k) 1 = 1
          · have q := give_calls b g c (.pointer (some ⟨bk0, 0, none⟩)) us k wr S.out
            have hc : can us k true = true := by rw [can_at (by omega), HMM.out k (Nat.le_refl k) hlt]; rfl
            rw [show put us k true false = us.set k false from by unfold put; rw [hc]; rfl, hc] at q
            have Q := Lib.hid q
            have hu2 : (us.set k false).length = 8 := by rw [List.length_set]; exact hu
            have HM2 := Lib.hid (show ∀ j, k + 1 ≤ j → j < n → (us.set k false).getD j false = true from fun j h1 h2 => by
              have := HMM.out j (by omega) h2
              rw [List.getD_eq_getElem?_getD] at this ⊢
              rw [List.getElem?_set_ne (by omega)]
              exact this)
            clear S q hc
            go_wp2_with fail
            refine Q.out.mono ?_
            rintro e wq ⟨rfl, sq⟩
            have S := Lib.hid sq
            clear sq Q
            generalize us.set k false = us2 at S hu2 HM2
            clear hg
            by_cases hs : bits .and .u64 (sp / 2 ^ k) 1 = 1
            · have hsb : sb sp k = true := decide_eq_true hs
              have q := rot_calls (DN (gs ns sp n k)) (.pointer (some ⟨bk0, 0, none⟩)) (.pointer none) (k : Int) 5 16 _ (S.out.eq (Q := dk (.pointer (some ⟨bk0, 0, none⟩)) (.pointer none) (DN (gs ns sp n k)) * (bay b (.pointer (some ⟨bk0, 0, none⟩)) g c us2 * emp)) (sep_left_comm _ _ _))
              have hr := dn_rot (gs ns sp n k) k (by rw [gs_len]; exact hlt) (by rw [gs_len]; exact hn8) 16
              rw [gs_at hlt] at hr
              rw [show (fi ns k).set 5 ((fi ns k).getD 5 0 ^^^ 16) = tf ns k from rfl, ← gs_yes hlt hsb] at hr
              rw [hr, show bv (16 : UInt8) = Value.int .u8 16 from rfl] at q
              have Q := Lib.hid q
              clear q hr hsb S
              go_wp2_with fail
              refine Q.out.mono ?_
              rintro e wq9 ⟨rfl, sq⟩
              have S := Lib.hid (St.eq (Q := bay b (.pointer (some ⟨bk0, 0, none⟩)) g c us2 * (dk (.pointer (some ⟨bk0, 0, none⟩)) (.pointer none) (DN (gs ns sp n (k + 1))) * emp)) (sep_left_comm _ _ _) sq)
              clear sq Q
              go_wp2_with fail
              go_roundw
              case rel => exact ⟨k + 1, us2, by omega, hu2, HM2.out, by go_num, S.out⟩
              case measure => simp [intOf]; omega
            · have hsb : sb sp k = false := decide_eq_false hs
              have S2 := Lib.hid (show St w0.heap.size w0 _ (bay b (.pointer (some ⟨bk0, 0, none⟩)) g c us2 * (dk (.pointer (some ⟨bk0, 0, none⟩)) (.pointer none) (DN (gs ns sp n (k + 1))) * emp)) from by rw [gs_no hsb]; exact S.out)
              clear S hsb
              go_wp2_with fail
              go_roundw
              case rel => exact ⟨k + 1, us2, by omega, hu2, HM2.out, by go_num, S2.out⟩
              case measure => simp [intOf]; omega
          · have hu2 := hu
            have HM2 := Lib.hid (show ∀ j, k + 1 ≤ j → j < n → us.getD j false = true from fun j h1 h2 => HMM.out j (by omega) h2)
            obtain ⟨us2, hus2⟩ : ∃ x, us = x := ⟨_, rfl⟩
            subst hus2
            by_cases hs : bits .and .u64 (sp / 2 ^ k) 1 = 1
            · have hsb : sb sp k = true := decide_eq_true hs
              have q := rot_calls (DN (gs ns sp n k)) (.pointer (some ⟨bk0, 0, none⟩)) (.pointer none) (k : Int) 5 16 _ (S.out.eq (Q := dk (.pointer (some ⟨bk0, 0, none⟩)) (.pointer none) (DN (gs ns sp n k)) * (bay b (.pointer (some ⟨bk0, 0, none⟩)) g c us * emp)) (sep_left_comm _ _ _))
              have hr := dn_rot (gs ns sp n k) k (by rw [gs_len]; exact hlt) (by rw [gs_len]; exact hn8) 16
              rw [gs_at hlt] at hr
              rw [show (fi ns k).set 5 ((fi ns k).getD 5 0 ^^^ 16) = tf ns k from rfl, ← gs_yes hlt hsb] at hr
              rw [hr, show bv (16 : UInt8) = Value.int .u8 16 from rfl] at q
              have Q := Lib.hid q
              clear q hr hsb S
              go_wp2_with fail
              refine Q.out.mono ?_
              rintro e wq9 ⟨rfl, sq⟩
              have S := Lib.hid (St.eq (Q := bay b (.pointer (some ⟨bk0, 0, none⟩)) g c us * (dk (.pointer (some ⟨bk0, 0, none⟩)) (.pointer none) (DN (gs ns sp n (k + 1))) * emp)) (sep_left_comm _ _ _) sq)
              clear sq Q
              go_wp2_with fail
              go_roundw
              case rel => exact ⟨k + 1, us, by omega, hu2, HM2.out, by go_num, S.out⟩
              case measure => simp [intOf]; omega
            · have hsb : sb sp k = false := decide_eq_false hs
              have S2 := Lib.hid (show St w0.heap.size w0 _ (bay b (.pointer (some ⟨bk0, 0, none⟩)) g c us * (dk (.pointer (some ⟨bk0, 0, none⟩)) (.pointer none) (DN (gs ns sp n (k + 1))) * emp)) from by rw [gs_no hsb]; exact S.out)
              clear S hsb
              go_wp2_with fail
              go_roundw
              case rel => exact ⟨k + 1, us, by omega, hu2, HM2.out, by go_num, S2.out⟩
              case measure => simp [intOf]; omega
        · have e9 : n = k := by omega
          subst e9
          have HSY := Lib.hid (fun (i : Nat) (h : i < n) (hs : sb sp i = false) => sc_yes (ns := ns) (sp := sp) h hn8 hs)
          have HSN := Lib.hid (fun (i : Nat) (h : i < n) (hs : sb sp i = true) => sc_no (ns := ns) (sp := sp) h hn8 hs)
          have HSE := Lib.hid (sc_end ns sp hn8)
          have q := scan_calls b g c (.pointer (some ⟨bk0, 0, none⟩)) (.pointer none) us (DN (gs ns sp n n)) rfl wr S.out
          rw [show (DN (gs ns sp n n)).lasts.length = 8 from rfl, HSE.out] at q
          have Q := Lib.hid q
          clear q S HMM HSE
          generalize DN (gs ns sp n n) = D at Q HSY HSN
          go_wp2_with fail
          refine Q.out.mono ?_
          rintro e wq ⟨v, rfl, sq⟩
          obtain ⟨av, cv, rfl, -⟩ := sq.rowSlice
          generalize hX : bay b (.pointer (some ⟨bk0, 0, none⟩)) g c us * (dk (.pointer (some ⟨bk0, 0, none⟩)) (.pointer none) D * emp) = X at sq
          have S := Lib.hid sq
          have hle := chs_le D n
          clear sq Q hX
          go_wp2_with fail
          go_loopw [15, 16] (fun kk i wr => ∃ k : Nat, k ≤ n ∧ i = .int .i64 k ∧ kk = .int .i64 ((chs D k).length : Nat) ∧ St w0.heap.size w0 wr (row 48 3 (.slice av (chs D n).length cv) (chs D n).length ((chs D n).flatMap c3) * X)) (fun _ i _ => n - (intOf i).toNat)
          case atStart => exact ⟨0, Nat.zero_le _, rfl, rfl, S.out⟩
          case round =>
            obtain ⟨k, hk, rfl, rfl, s⟩ := hrel
            clear S
            by_cases hlt : k < n
            · by_cases hs : bits .and .u64 (sp / 2 ^ k) 1 = 1
              · have hn := chs_no (HSN.out k hlt (decide_eq_true hs))
                have S := Lib.hid s
                have HN := Lib.hid hn
                clear s hn
                go_wp2_with fail
                go_roundw
                case rel => exact ⟨k + 1, by omega, by go_num, by rw [HN.out], S.out⟩
                case measure => simp [intOf]; omega
              · have S := Lib.hid s
                clear s
                obtain ⟨hy1, hy2, hy3⟩ := HSY.out k hlt (decide_eq_false hs)
                have hget := chs_get hlt hy1
                have hnx := chs_yes hy1
                rw [hy2, hy3] at hget
                obtain ⟨hkl, -⟩ := List.getElem?_eq_some_iff.1 hget
                have C3 := Lib.hid (c3_at _ _ _ hget)
                have HNX := Lib.hid (show (chs D (k + 1)).length = (chs D k).length + 1 from by rw [hnx, List.length_append]; rfl)
                obtain ⟨av', cv', hav, hcm, -, -, hcell⟩ := S.out.rowSlice
                cases hav
                obtain ⟨g9, rfl, -⟩ := hcell (by omega)
                have hkn : k < ns.length := by omega
                obtain ⟨ab, off, rfl⟩ := HP.out.head (by omega)
                have g1 : (k : Int) < (ns.length : Int) := by omega
                have HI := Lib.hid (idn_eq hkn)
                have CI := Lib.hid fun (w' : World) (s : St w0.heap.size w0 w' (row 48 3 (.slice (some ⟨g9, 0, none⟩) (chs D n).length cv) (chs D n).length ((chs D n).flatMap c3) * X)) => (HP.out.st rfl s).cellAt k hkn
                have CC := Lib.hid fun (w' : World) (s : St w0.heap.size w0 w' (row 48 3 (.slice (some ⟨g9, 0, none⟩) (chs D n).length cv) (chs D n).length ((chs D n).flatMap c3) * X)) => show w'.cell? ⟨g9, (chs D k).length * 3, none⟩ = some (.int .i64 (k : Int)) ∧ w'.cell? ⟨g9, (chs D k).length * 3 + 1, none⟩ = some (.int .i64 (idn ns k : Int)) ∧ w'.cell? ⟨g9, (chs D k).length * 3 + 2, none⟩ = some (.int .i64 (k : Int)) from by
                  obtain ⟨_, _, e, -, -, -, hcell⟩ := s.rowSlice
                  cases e
                  obtain ⟨g', e', hc⟩ := hcell (by omega)
                  cases e'
                  rw [hc _ (by omega), hc _ (by omega), hc _ (by omega)]
                  exact C3.out
                have h9 : ((chs D k).length : Int) < ((chs D n).length : Int) := by omega
                have h10 : ¬ ((chs D n).length : Int) ≤ ((chs D k).length : Int) := by omega
                have HKL := Lib.hid hkl
                clear hget hnx C3 hy1 hy2 hy3 hcell hkl hcm
                go_wp2_with fail
                refine wp_region_rx (fun _ w' => St w0.heap.size w0 w' (row 48 3 (.slice (some ⟨g9, 0, none⟩) (chs D n).length cv) (chs D n).length ((chs D n).flatMap c3) * X)) [] mixed (by kernel_rfl) (by kernel_rfl) S.out.drew ?_
                refine RXl.exact (.int .i64 ((chs D k).length : Int)) rfl rfl rfl rfl rfl (fun _ _ _ _ _ => rfl) ?_
                refine RXl.exact (.slice (some ⟨g9, 0, none⟩) (chs D n).length cv) rfl rfl rfl rfl rfl (fun _ _ _ _ _ => rfl) ?_
                refine RXl.exact (.int .i64 ((chs D n).length : Int)) rfl rfl rfl rfl rfl (fun j τ w' hj hJ => by simp [rho, upd, Spec.val, execOp, go_sem]) ?_
                refine RXl.exact (.bool false) rfl rfl rfl rfl rfl (fun j τ w' hj hJ => by have c := HKL.out; simp [rho, upd, Spec.val, execOp, go_sem, c]) ?_
                refine RXl.exact (.bool false) rfl rfl rfl rfl rfl (fun _ _ _ _ _ => rfl) ?_
                refine RXl.exact (.slice (some ⟨g9, 0, none⟩) (chs D n).length cv) rfl rfl rfl rfl rfl (fun _ _ _ _ _ => rfl) ?_
                refine RXl.exact (.int .i64 ((chs D k).length : Int)) rfl rfl rfl rfl rfl (fun _ _ _ _ _ => rfl) ?_
                refine RXl.exact (.pointer (some ⟨g9, (chs D k).length * 3, none⟩)) rfl rfl rfl rfl rfl (fun j τ w' hj hJ => by have c := HKL.out; simp [rho, upd, Spec.val, execOp, go_sem, c]) ?_
                refine RXl.exact (.agg #[.int .i64 (k : Int), .int .i64 (idn ns k : Int), .int .i64 (k : Int)]) rfl rfl rfl rfl rfl (fun j τ w' hj hJ => by have c := CC.out w' hJ; simp [rho, upd, Spec.val, execOp, go_sem, c.1, c.2.1, c.2.2]) ?_
                refine RXl.exact (.int .i64 (k : Int)) rfl rfl rfl rfl rfl (fun _ _ _ _ _ => rfl) ?_
                refine RXl.exact (.slice (some ⟨ab, off, none⟩) ns.length ca) rfl rfl rfl rfl rfl (fun _ _ _ _ _ => rfl) ?_
                refine RXl.exact (.int .i64 (k : Int)) rfl rfl rfl rfl rfl (fun _ _ _ _ _ => rfl) ?_
                refine RXl.exact (.pointer (some ⟨ab, off + k, none⟩)) rfl rfl rfl rfl rfl (fun j τ w' hj hJ => by simp [rho, upd, Spec.val, execOp, go_sem, g1]) ?_
                refine RXl.exact (.int .i64 ns[k]) rfl rfl rfl rfl rfl (fun j τ w' hj hJ => by have c := CI.out w' hJ; simp [rho, upd, Spec.val, execOp, go_sem, c]) ?_
                refine RXl.exact (.int .i64 (idn ns k : Int)) rfl rfl rfl rfl rfl (fun j τ w' hj hJ => by have c := HI.out; simp [rho, upd, Spec.val, execOp, go_sem, c]) ?_
                refine RXl.exact (.int .i64 (k : Int)) rfl rfl rfl rfl rfl (fun _ _ _ _ _ => rfl) ?_
                refine RXl.exact (.agg #[.int .i64 (k : Int), .int .i64 (idn ns k : Int), .int .i64 (k : Int)]) rfl rfl rfl rfl rfl (fun j τ w' hj hJ => by simp [rho, upd, Spec.val, execOp, go_sem]) ?_
                refine RXl.exact (.bool false) rfl rfl rfl rfl rfl (fun j τ w' hj hJ => by simp [rho, upd, Spec.val, execOp, go_sem]) ?_
                refine RXl.exact (.bool false) rfl rfl rfl rfl rfl (fun _ _ _ _ _ => rfl) ?_
                refine RXl.nilx _ (Agr.upd _ _ (Agr.upd _ _ (Agr.upd _ _ (Agr.upd _ _ (Agr.upd _ _ (Agr.upd _ _ (Agr.upd _ _ (Agr.upd _ _ (Agr.upd _ _ (Agr.upd _ _ (Agr.upd _ _ (Agr.upd _ _ (Agr.upd _ _ (Agr.upd _ _ (Agr.upd _ _ (Agr.upd _ _ (Agr.upd _ _ (Agr.upd _ _ (Agr.upd _ _ (Agr.base _)))))))))))))))))))) fun w8 hJ => ?_
                obtain ⟨_, hJ⟩ := hJ
                simp only [Act.put, List.setIfInBounds_toArray, List.set_cons_succ, List.set_cons_zero]
                have S8 := Lib.hid (show St w0.heap.size w0 w8 (row 48 3 (.slice (some ⟨g9, 0, none⟩) (chs D n).length cv) (chs D n).length ((chs D n).flatMap c3) * X) from hJ)
                clear hJ S CI CC h9 h10
                have hle2 := chs_le D k
                go_wp2_with fail
                go_roundw
                case rel => exact ⟨k + 1, by omega, by go_num, by rw [HNX.out]; push_cast; rfl, S8.out⟩
                case measure => simp [intOf]; omega
            · have e9 : n = k := by omega
              subst e9
              have S := Lib.hid s.right
              clear s
              generalize (chs D n).length = m at *
              go_wp2_with fail
              refine (awake_calls _ S.out).mono ?_
              rintro e wq9 ⟨rfl, sq⟩
              have S9 := Lib.hid sq
              clear sq S
              go_wp2_with fail
              go_ret
              exact ⟨rfl, S9.out.below⟩
theorem scans_walk (a : Option Addr) (ca : Nat) (ns : List Int) (gv sp : Int) (w0 : World) (hp : IS w0 (.slice a ns.length ca) ns) (_yp : ns.length * 8 ≤ 140737488351232) (_w1 : (Lit.int .u64 gv).wf = true) (_w2 : (Lit.int .u64 sp).wf = true) :
    Calls Try.prog 6 #[.slice a ns.length ca, .int .u64 gv, .int .u64 sp] w0 fun e w' => e = .returned (.bool true) ∧ Below w0.heap.size w0 w' :=
  scans_in a ca ns gv sp _ rfl w0 (Lib.hid hp)
end Go.Proofs.Ytmilfilmhkpjoaa.BayW
