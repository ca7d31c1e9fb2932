/- TrioMends, walked: the law. -/
import Derived.Test.YtkkkncchinejmaaTrL5
import Derived.Test.YtkkkncchinejmaaTrL3
namespace Go.Proofs.Ytkkkncchinejmaa.TrL
open Go Go.RowKit Go.Proofs.Ytkkkncchinejmaa Go.Proofs.Ytkkkncchinejmaa.Sp Go.Proofs.Ytkkkncchinejmaa.Reg Go.Proofs.Ytkkkncchinejmaa.SlW Go.Proofs.Ytkkkncchinejmaa.Fus Go.Proofs.Ytkkkncchinejmaa.TrM Go.Proofs.Ytkkkncchinejmaa.TapW Go.Proofs.Ytkkkncchinejmaa.TrW Go.Proofs.Ytkkkncchinejmaa.Str
theorem SJ.keep {B : Nat} {w0 : World} {l : List (List UInt8)} {X : HP} : ∀ {j : Nat} {vs : Nat → Value} {w w' : World}, SJ B w0 l X j vs w → Add w w' → SJ B w0 l X j vs w'
  | 0, _, _, _, h, k => St.keep h k
  | 1, _, _, _, ⟨v, e, h⟩, k => ⟨v, e, h.keep k⟩
  | _ + 2, _, _, _, ⟨e, h⟩, k => ⟨e, h.keep k⟩
theorem awake_sj {B : Nat} {w0 : World} {l : List (List UInt8)} {X : HP} {j : Nat} {vs : Nat → Value} {w : World} (h : SJ B w0 l X j vs w) : Calls Try.prog 13 #[] w fun e w' => e = .returned (.bool true) ∧ SJ B w0 l X j vs w' :=
  (awake_calls w).mono fun _ _ k => ⟨k.1, h.keep k.2⟩
theorem fam_fail (c d : List UInt8) (i : Nat) (hi : i < 3) : (fam 3 c d).set i ⟨((fam 3 c d).getD i Tp.new).b, ((fam 3 c d).getD i Tp.new).loose, true⟩ = fam i c c := by
  obtain rfl | rfl | rfl : i = 0 ∨ i = 1 ∨ i = 2 := by omega
  all_goals rfl
theorem write_new (c : List UInt8) (h : c.length ≤ 65536) : tWrite none Tp.new 0 c = (0, none, ft c false) := by
  have e1 : tCut none Tp.new 0 = (0, none, Tp.new) := by simp [tCut, Tp.new, fdead, fspend]
  have e2 : tApp none Tp.new c = (0, none, ⟨c, c.length, false⟩) := by simp [tApp, Tp.new, fdead, fspend]; omega
  have e3 : tSync none ⟨c, c.length, false⟩ = (0, ft c false) := by simp [tSync, fdead, ft]
  unfold tWrite
  rw [show ((0 : Nat) : Int) = 0 from rfl, e1]
  simp [e2, e3]
theorem fam_mend (c d : List UInt8) (i : Nat) (hi : i < 3) (h : c.length ≤ 65536) : trMend none ((fam i c d).set i Tp.new) i = (0, none, fam 3 c []) := by
  obtain rfl | rfl | rfl : i = 0 ∨ i = 1 ∨ i = 2 := by omega
  · have e : mendFrom ((fam 0 c d).set 0 Tp.new) 0 = some 1 := rfl
    unfold trMend
    rw [if_neg (by simp [fam, Tp.new]), show ((0 : Nat) : Int).toNat = 0 from rfl, e]
    simp [fam, ft, write_new c h]
  · have e : mendFrom ((fam 1 c d).set 1 Tp.new) 1 = some 0 := rfl
    unfold trMend
    rw [if_neg (by simp [fam, Tp.new]), show ((1 : Nat) : Int).toNat = 1 from rfl, e]
    simp [fam, ft, write_new c h]
  · have e : mendFrom ((fam 2 c d).set 2 Tp.new) 2 = some 0 := rfl
    unfold trMend
    rw [if_neg (by simp [fam, Tp.new]), show ((2 : Nat) : Int).toNat = 2 from rfl, e]
    simp [fam, ft, write_new c h]
theorem fam_open (B : Nat) (w0 : World) (L : List (List UInt8)) (hok : ∀ r ∈ L, okr r) (d : List UInt8) (k p0 p1 p2 : Nat) (hk : k < 3) (x : Option Addr) (F : Option Fu) (R : HP) (e : Ending) (w' : World) :
    OpP B w0 x [p0, p1, p2] (fam k (jn L) d) F R e w' = OpYes B w0 x [p0, p1, p2] (fam k (jn L) d) F L R e w' := by
  have hs := spl_jn0 hok
  have h1 : lvi (fam k (jn L) d) = if k = 0 then [1, 2] else if k = 1 then [0, 2] else [0, 1] := by
    obtain rfl | rfl | rfl : k = 0 ∨ k = 1 ∨ k = 2 := by omega
    all_goals rfl
  have h2 : best (fam k (jn L) d) = L := by
    unfold best
    rw [h1]
    obtain rfl | rfl | rfl : k = 0 ∨ k = 1 ∨ k = 2 := by omega
    all_goals
      simp [rcs, fam, ft, hs, cnt2, al_self]
  have h3 : opK F (fam k (jn L) d) (lvi (fam k (jn L) d)) L = (0, F, fam k (jn L) d) := by
    rw [h1]
    obtain rfl | rfl | rfl : k = 0 ∨ k = 1 ∨ k = 2 := by omega
    all_goals simp [opK, fam, ft]
  unfold OpP
  rw [if_neg (by rw [h1]; obtain rfl | rfl | rfl : k = 0 ∨ k = 1 ∨ k = 2 := (by omega); all_goals simp), h2, h3, if_pos rfl]
set_option maxRecDepth 100000 in
set_option maxHeartbeats 32000000 in
theorem mends_walk (a : Option Addr) (ca : Nat) (ra : List (List UInt8)) (a2 : Option Addr) (cb : Nat) (bs : List (List UInt8)) (i k : Int) (W : World) (ha : BSS W (.slice a ra.length ca) ra) (hb : BSS W (.slice a2 bs.length cb) bs) (_w1 : (Lit.int .i64 i).wf = true) (_w2 : (Lit.int .i64 k).wf = true) :
    Calls Try.prog 7 #[.slice a ra.length ca, .slice a2 bs.length cb, .int .i64 i, .int .i64 k] W fun e w' => e = .returned (.bool true) ∧ Below W.heap.size W w' := by
  have hcm1 := ha.open'.2.2.1
  have hcm2 := hb.open'.2.2.1
  have hcl1 := ha.open'.2.1
  have hcl2 := hb.open'.2.1
  unfold maxLen at hcm1 hcm2
  by_cases hl : 8 < ra.length ∨ 8 < bs.length
  · have hl' : (8 : Int) < ra.length ∨ ¬ (8 : Int) < ra.length ∧ (8 : Int) < bs.length := by omega
    clear hl ha hb
    rcases hl' with h | ⟨h, h2⟩
    all_goals
      go_enter Try.func7, Try.ntmps7
      go_wp2_with fail
      refine (newt0 _ (St.init W)).mono ?_
      rintro e w1 ⟨b, p0, p1, p2, rfl, s1⟩
      have S1 := Lib.hid s1
      clear s1
      go_wp2_with fail
      refine (awake_calls _).mono ?_
      rintro e w2 ⟨rfl, h2⟩
      have HA := Lib.hid ((S1.out.alloc (.cells #[pp b] 37)).keep h2)
      clear h2
      go_wp2_with fail
      go_ret
      exact ⟨rfl, HA.out.below⟩
  · have hl1 : ¬ (8 : Int) < ra.length := by omega
    have hl2 : ¬ (8 : Int) < bs.length := by omega
    have hl3 : ra.length ≤ 8 := by omega
    have hl4 : bs.length ≤ 8 := by omega
    clear hl
    have k1 := and_m8 i
    obtain ⟨y, hy, hy2⟩ : ∃ y : Nat, i % 256 = (y : Int) ∧ y < 256 := ⟨(i % 256).toNat, by omega, by omega⟩
    rw [hy] at k1
    clear hy
    obtain ⟨q, hq, hq3⟩ : ∃ q : Nat, (y : Int) % 3 = (q : Int) ∧ q < 3 := ⟨y % 3, by omega, by omega⟩
    have k2 := and_m8 k
    obtain ⟨y2, hy, hy3⟩ : ∃ y : Nat, k % 256 = (y : Int) ∧ y < 256 := ⟨(k % 256).toNat, by omega, by omega⟩
    rw [hy] at k2
    clear hy
    obtain ⟨p, hp, hp3⟩ : ∃ q : Nat, (y2 : Int) % 3 = (q : Int) ∧ q < 3 := ⟨y2 % 3, by omega, by omega⟩
    have Ha := Lib.hid ha
    have Hb := Lib.hid hb
    have Hq := Lib.hid hq
    have Hp := Lib.hid hp
    clear ha hb hq hp
    go_enter Try.func7, Try.ntmps7
    go_wp2_with fail
    refine (newt0 _ (St.init W)).mono ?_
    rintro e w1 ⟨b, p0, p1, p2, rfl, s1⟩
    have S1 := Lib.hid s1
    clear s1
    go_wp2_with fail
    have s2 := S1.out.alloc (.cells #[pp b] 37)
    refine (tapes_calls b p0 p1 p2 0 _ (s2.eq (Q := tro b p0 p1 p2 0 * (pts w1.heap.size (.cells #[pp b] 37) * (tps none [p0, p1, p2] [Tp.new, Tp.new, Tp.new] * (fz (.pointer none) none * emp)))) (by rw [trx_eq]; ac_rfl))).mono ?_
    generalize w1.heap.size = bt at *
    rintro e w3 ⟨rfl, s3⟩
    have S3 := Lib.hid s3
    clear s2 s3 S1
    go_wp2_with fail
    have s4 := S3.out.alloc (.cells #[pp p0, pp p1, pp p2] 43)
    have s5 := s4.alloc (.cells #[.slice none 0 0] 24)
    rw [show (w3.alloc (.cells #[pp p0, pp p1, pp p2] 43)).heap.size = w3.heap.size + 1 by simp] at s5
    rw [Hq.out, Hp.out]
    generalize w3.heap.size + 1 = bw at *
    generalize w3.heap.size = gl at *
    obtain ⟨pq, hpq⟩ : ∃ z, [p0, p1, p2].getD q 0 = z := ⟨_, rfl⟩
    obtain ⟨pr, hpr⟩ : ∃ z, [p0, p1, p2].getD p 0 = z := ⟨_, rfl⟩
    have Hpq := Lib.hid hpq
    have Hpr := Lib.hid hpr
    clear hpq hpr
    have hlu := flt_len ra
    have hlv := flt_len bs
    have hju := jn_len_max _ (flt_ok ra)
    have hjv := jn_len_max _ (flt_ok bs)
    have hok3 : ∀ r ∈ flt ra ++ flt bs ++ flt ra, okr r := fun r hr => by
      rcases List.mem_append.1 hr with h | h
      · rcases List.mem_append.1 h with h | h
        · exact flt_ok ra r h
        · exact flt_ok bs r h
      · exact flt_ok ra r h
    have hc2 : jn (flt ra) ++ jn (flt bs) = jn (flt ra ++ flt bs) := (jn_append _ _).symm
    have hc3 : jn (flt ra ++ flt bs) ++ jn (flt ra) = jn (flt ra ++ flt bs ++ flt ra) := (jn_append _ _).symm
    have hl5 : (jn (flt ra ++ flt bs)).length ≤ 5000 := by rw [← hc2, List.length_append]; omega
    have hPA := fun (f : Nat) (hf : f ≤ 3) (c d : List UInt8) (want : List (List UInt8)) (n : Nat) (wv : Value) (w : World) (h1 : c.length ≤ 10000) (h2 : n ≤ 1000) (h3 : want.length ≤ 1000) (s : St W.heap.size W w (PX bt bw b wv want (trx b none [p0, p1, p2] n (fam f c d) none * (pts gl (.cells #[pp p0, pp p1, pp p2] 43) * emp)))) =>
      put_calls f hf c d want n bt bw b p0 p1 p2 wv a ca ra W w rfl rfl Ha.out hl3 h1 h2 h3 s
    have hPB := fun (f : Nat) (hf : f ≤ 3) (c d : List UInt8) (want : List (List UInt8)) (n : Nat) (wv : Value) (w : World) (h1 : c.length ≤ 10000) (h2 : n ≤ 1000) (h3 : want.length ≤ 1000) (s : St W.heap.size W w (PX bt bw b wv want (trx b none [p0, p1, p2] n (fam f c d) none * (pts gl (.cells #[pp p0, pp p1, pp p2] 43) * emp)))) =>
      put_calls f hf c d want n bt bw b p0 p1 p2 wv a2 cb bs W w rfl rfl Hb.out hl4 h1 h2 h3 s
    generalize hU : flt ra = U at *
    generalize hV : flt bs = V at *
    have s6 : St W.heap.size W _ (PX bt bw b (.slice none 0 0) [] (trx b none [p0, p1, p2] 0 (fam 3 [] []) none * (pts gl (.cells #[pp p0, pp p1, pp p2] 43) * emp))) :=
      (s5.rowNil 9 1).eq (by unfold PX; rw [trx_eq]; show row 9 1 (.slice none 0 0) 0 [] * _ = pts bt _ * (pts bw _ * (row 9 1 (.slice none 0 0) 0 [] * (tro b p0 p1 p2 0 * (tps none [p0, p1, p2] [Tp.new, Tp.new, Tp.new] * _) * _))); ac_rfl)
    have S6 := Lib.hid s6
    have Hok3 := Lib.hid hok3
    have HU := Lib.hid hU
    have HV := Lib.hid hV
    have Hc2 := Lib.hid hc2
    have Hc3 := Lib.hid hc3
    clear hU hV hc2 hc3
    clear s4 s5 s6 hok3 S3
    refine (hPA 3 (by omega) [] [] [] 0 _ _ (by simp) (by omega) (by simp) S6.out).mono ?_
    rintro e w6 ⟨v6, rfl, s7⟩
    simp only [List.nil_append, Nat.zero_add] at s7
    have hgl : ∀ (w : World) (Y : HP), St W.heap.size W w (Y * (pts gl (.cells #[pp p0, pp p1, pp p2] 43) * emp)) → (∀ j, j < 3 → w.cell? ⟨gl, j, none⟩ = some (pp ([p0, p1, p2].getD j 0))) := fun w Y s j hj => by
      obtain rfl | rfl | rfl : j = 0 ∨ j = 1 ∨ j = 2 := by omega
      · exact s.right.cell 0
      · exact s.right.cell 1
      · exact s.right.cell 2
    have e7 : PX bt bw b v6 U (trx b none [p0, p1, p2] U.length (fam 3 (jn U) []) none * (pts gl (.cells #[pp p0, pp p1, pp p2] 43) * emp)) = PX bt bw b v6 U (trx b none [p0, p1, p2] U.length (fam 3 (jn U) []) none) * (pts gl (.cells #[pp p0, pp p1, pp p2] 43) * emp) := by unfold PX; ac_rfl
    have hq7 := hgl w6 _ (s7.eq e7) q hq3
    rw [Hpq.out] at hq7
    have S7 := Lib.hid s7
    clear s7 e7 S6
    have hqI : (q : Int) < 3 := by omega
    go_wp2_with fail
    have qf := tfail_calls none [p0, p1, p2] (fam 3 (jn U) []) q (by simpa using hq3) hq3 w6 (R := PX bt bw b v6 U (tro b p0 p1 p2 U.length * (fz (.pointer none) none * (pts gl (.cells #[pp p0, pp p1, pp p2] 43) * emp)))) (S7.out.eq (by unfold PX; rw [trx_eq]; ac_rfl))
    rw [fam_fail _ _ _ hq3, Hpq.out] at qf
    refine qf.mono ?_
    rintro e w7 ⟨rfl, s8⟩
    have S8 := Lib.hid (show St W.heap.size W w7 (PX bt bw b v6 U (trx b none [p0, p1, p2] U.length (fam q (jn U) (jn U)) none * (pts gl (.cells #[pp p0, pp p1, pp p2] 43) * emp))) from s8.eq (by unfold PX; rw [trx_eq]; ac_rfl))
    clear s8 qf S7 hq7
    go_wp2_with fail
    refine (hPB q (by omega) (jn U) (jn U) U U.length v6 w7 (by omega) (by omega) (by omega) S8.out).mono ?_
    rintro e w8 ⟨v8, rfl, s9⟩
    rw [Hc2.out] at s9
    have e9 : PX bt bw b v8 (U ++ V) (trx b none [p0, p1, p2] (U.length + V.length) (fam q (jn (U ++ V)) (jn U)) none * (pts gl (.cells #[pp p0, pp p1, pp p2] 43) * emp)) = PX bt bw b v8 (U ++ V) (trx b none [p0, p1, p2] (U.length + V.length) (fam q (jn (U ++ V)) (jn U)) none) * (pts gl (.cells #[pp p0, pp p1, pp p2] 43) * emp) := by unfold PX; simp only [sep_assoc]
    have hq7 := hgl w8 _ (s9.eq e9) q hq3
    rw [Hpq.out] at hq7
    have S9 := Lib.hid s9
    clear s9 e9 S8
    go_wp2_with fail
    have s10 := tps_out (get_p (show q < [p0, p1, p2].length by simpa using hq3)) (get_T (show q < (fam q (jn (U ++ V)) (jn U)).length from hq3)) (S9.out.eq (Q := tps none [p0, p1, p2] (fam q (jn (U ++ V)) (jn U)) * PX bt bw b v8 (U ++ V) (tro b p0 p1 p2 (U.length + V.length) * (fz (.pointer none) none * (pts gl (.cells #[pp p0, pp p1, pp p2] 43) * emp)))) (by unfold PX; rw [trx_eq]; generalize U ++ V = UV; ac_rfl))
    have qr := replace_calls _ _ none w8 s10
    rw [Hpq.out] at qr
    refine qr.mono ?_
    rintro e w9 ⟨rfl, s11⟩
    rw [← Hpq.out] at s11
    have s12 := tps_in (get_p (show q < [p0, p1, p2].length by simpa using hq3)) (show q < (fam q (jn (U ++ V)) (jn U)).length from hq3) s11
    have s13 := s12.eq (Q := trx b none [p0, p1, p2] (U.length + V.length) ((fam q (jn (U ++ V)) (jn U)).set q Tp.new) none * PX bt bw b v8 (U ++ V) (pts gl (.cells #[pp p0, pp p1, pp p2] 43) * emp)) (by unfold PX; rw [trx_eq]; generalize U ++ V = UV; ac_rfl)
    have hbt : w9.cell? ⟨bt, 0, none⟩ = some (pp b) := St.cell (s13.right) 0
    have S13 := Lib.hid s13
    clear s10 s11 s12 s13 S9 hq7 qr
    go_wp2_with fail
    have qm := mend_calls none _ _ b p0 p1 p2 none (q : Int) (by rw [List.length_set]; rfl) w9 S13.out
    rw [fam_mend _ _ _ hq3 (by omega)] at qm
    refine qm.mono ?_
    rintro e w10 ⟨rfl, s14⟩
    have S14 := Lib.hid (show St W.heap.size W w10 (PX bt bw b v8 (U ++ V) (trx b none [p0, p1, p2] (U.length + V.length) (fam 3 (jn (U ++ V)) []) none * (pts gl (.cells #[pp p0, pp p1, pp p2] 43) * emp))) from s14.eq (by unfold PX; generalize U ++ V = UV; ac_rfl))
    clear s14 qm S13 hbt
    go_wp2_with fail
    refine (hPA 3 (by omega) (jn (U ++ V)) [] (U ++ V) (U.length + V.length) v8 w10 (by omega) (by omega) (by rw [List.length_append]; omega) S14.out).mono ?_
    rintro e w11 ⟨v11, rfl, s15⟩
    rw [Hc3.out] at s15
    have HL := Lib.hid (show (U ++ V ++ U).length ≤ 1000 by simp; omega)
    generalize U ++ V ++ U = L at *
    have e9 : PX bt bw b v11 L (trx b none [p0, p1, p2] (U.length + V.length + U.length) (fam 3 (jn L) []) none * (pts gl (.cells #[pp p0, pp p1, pp p2] 43) * emp)) = PX bt bw b v11 L (trx b none [p0, p1, p2] (U.length + V.length + U.length) (fam 3 (jn L) []) none) * (pts gl (.cells #[pp p0, pp p1, pp p2] 43) * emp) := by unfold PX; ac_rfl
    have hq7 := hgl w11 _ (s15.eq e9) p hp3
    rw [Hpr.out] at hq7
    have hpI : (p : Int) < 3 := by omega
    have S15 := Lib.hid s15
    clear s15 e9 S14
    go_wp2_with fail
    have qf := tfail_calls none [p0, p1, p2] (fam 3 (jn L) []) p (by simpa using hp3) hp3 w11 (R := PX bt bw b v11 L (tro b p0 p1 p2 (U.length + V.length + U.length) * (fz (.pointer none) none * (pts gl (.cells #[pp p0, pp p1, pp p2] 43) * emp)))) (S15.out.eq (by unfold PX; rw [trx_eq]; ac_rfl))
    rw [fam_fail _ _ _ hp3, Hpr.out] at qf
    refine qf.mono ?_
    rintro e w12 ⟨rfl, s16⟩
    have s17 := s16.eq (Q := tps none [p0, p1, p2] (fam p (jn L) (jn L)) * (fz (.pointer none) none * PX bt bw b v11 L (tro b p0 p1 p2 (U.length + V.length + U.length) * (pts gl (.cells #[pp p0, pp p1, pp p2] 43) * emp)))) (by unfold PX; ac_rfl)
    have s18 := s17.eq (Q := pts gl (.cells #[pp p0, pp p1, pp p2] 43) * (tps none [p0, p1, p2] (fam p (jn L) (jn L)) * (fz (.pointer none) none * PX bt bw b v11 L (tro b p0 p1 p2 (U.length + V.length + U.length) * emp)))) (by unfold PX; ac_rfl)
    have c0 := s18.cell 0
    have c1 := s18.cell 1
    have c2 := s18.cell 2
    simp at c0 c1 c2
    have S17 := Lib.hid s17
    clear s16 s17 s18 qf S15 hq7
    go_wp2_with fail
    clear c0 c1 c2
    refine (open_calls none (fam p (jn L) (jn L)) p0 p1 p2 none rfl w12 S17.out).mono ?_
    intro e w13 h
    rw [fam_open _ _ _ Hok3.out _ _ _ _ _ hp3] at h
    obtain ⟨X, b5, v5, vs5, rfl, hbr, s19⟩ := h
    obtain ⟨A5, c5, rfl, h51, h52, h53, h54⟩ := hbr.val
    obtain ⟨a11, c11, rfl, -⟩ := (s19.eq (Q := row 9 1 v11 L.length (sv L) * (X * (trx b5 none [p0, p1, p2] L.length (fam p (jn L) (jn L)) none * (pts bt (.cells #[pp b] 37 (0, 0)) * (pts bw (.cells #[v11] 24 (0, 0)) * (tro b p0 p1 p2 (U.length + V.length + U.length) * (pts gl (.cells #[pp p0, pp p1, pp p2] 43) * emp))))))) (by unfold PX; ac_rfl)).rowSlice
    have S19 := Lib.hid s19
    have Hbr := Lib.hid hbr
    have H53 := Lib.hid h53
    have H54 := Lib.hid h54
    clear hbr h53 h54
    clear s19 S17
    go_wp2_with fail
    generalize trx b5 none [p0, p1, p2] L.length (fam p (jn L) (jn L)) none = T5 at *
    generalize hY : tro b p0 p1 p2 (U.length + V.length + U.length) * (pts gl (.cells #[pp p0, pp p1, pp p2] 43) * emp) = Y5 at *
    clear hY
    have hrd : ∀ w' H, St W.heap.size W w' (H * (X * (T5 * PX bt bw b (.slice a11 L.length c11) L Y5))) → BSS w' (.slice A5 L.length c5) L ∧ w'.cell? ⟨bw, 0, none⟩ = some (.slice a11 L.length c11) ∧ SL w' (.slice a11 L.length c11) L := fun w' H s => by
      refine ⟨Hbr.out.bss (H := H * (T5 * PX bt bw b (.slice a11 L.length c11) L Y5)) (s.eq (by ac_rfl)), ?_, ?_⟩
      · exact St.cell (s.eq (Q := pts bw (.cells #[.slice a11 L.length c11] 24 (0, 0)) * (H * (X * (T5 * (pts bt (.cells #[pp b] 37 (0, 0)) * (row 9 1 (.slice a11 L.length c11) L.length (sv L) * Y5)))))) (by unfold PX; ac_rfl)) 0
      · exact St.sl _ (s.eq (Q := row 9 1 (.slice a11 L.length c11) L.length (sv L) * (H * (X * (T5 * (pts bt (.cells #[pp b] 37 (0, 0)) * (pts bw (.cells #[.slice a11 L.length c11] 24 (0, 0)) * Y5)))))) (by unfold PX; ac_rfl))
    have hld : ∀ j vs w', SJ W.heap.size W L (X * (T5 * PX bt bw b (.slice a11 L.length c11) L Y5)) j vs w' → w'.cell? ⟨bw, 0, none⟩ = some (.slice a11 L.length c11) := fun j vs w' h => by
      match j, h with
      | 0, h => exact (hrd w' emp (St.eq (emp_sep _).symm h)).2.1
      | 1, ⟨v, _, h⟩ => exact (hrd w' _ h).2.1
      | _ + 2, ⟨_, h⟩ => exact (hrd w' emp (St.eq (emp_sep _).symm h)).2.1
    have Hrd := Lib.hid hrd
    have Hld := Lib.hid hld
    clear hrd hld
    refine wp_region_rv [96, 98] (SJ W.heap.size W L (X * (T5 * PX bt bw b (.slice a11 L.length c11) L Y5))) [4, 6] mixed (by kernel_rfl) (by kernel_rfl) rfl (fun _ => S19.out.drew) ?_
    refine RXl.exact (.int .i64 0) rfl rfl rfl rfl rfl (fun _ _ _ _ _ => rfl) ?_
    refine RXl.exact (.bool true) rfl rfl rfl rfl rfl (fun j τ w' hj hJ => (by obtain ⟨vs, hv, hJ⟩ := hJ; exact (by simp [rho, upd, Spec.val, execOp, go_sem]))) ?_
    refine RXl.exact (.bool true) rfl rfl rfl rfl rfl (fun _ _ _ _ _ => rfl) ?_
    refine RXl.exact (.slice A5 L.length c5) rfl rfl rfl rfl rfl (fun _ _ _ _ _ => rfl) ?_
    refine RXl.callV 0 96 rfl rfl rfl (Nat.le_of_ble_eq_true rfl) _ [.tmp 95] _ rfl rfl rfl rfl rfl (fun ρ vs w _ hJ hag => ⟨[.slice A5 L.length c5], by simp [hag.ex 95 _ rfl rfl rfl], rfl, (strings_calls (.slice A5 L.length c5) L w (fun w' H s => (Hrd.out w' H s).1) (by have := HL.out; omega) hJ).mono (by rintro e w' ⟨v, rfl, s⟩; exact ⟨v, rfl, v, by simp [updv], s⟩)⟩) ?_
    refine RXl.exact (.slice a11 L.length c11) rfl rfl rfl rfl rfl (fun j τ w' hj hJ => (by obtain ⟨vs, hv, hJ⟩ := hJ; exact (by have c := Hld.out _ _ _ hJ; simp [rho, upd, Spec.val, execOp, go_sem, c]))) ?_
    refine RXl.callV 1 98 rfl rfl rfl (Nat.le_of_ble_eq_true rfl) _ [.tmp 96, .tmp 97] _ rfl rfl rfl rfl rfl (fun ρ vs w hv hJ hag => by obtain ⟨v, e, s⟩ := hJ; have e96 := (hv 0 96 (by decide) rfl).trans e; exact ⟨[v, .slice a11 L.length c11], by simp [hag.ex 97 _ rfl rfl rfl, e96], rfl, (same_calls v (.slice a11 L.length c11) L L w (St.sl _ s) (Hrd.out w _ s).2.2).mono (by rintro e w' ⟨he, hadd⟩; exact ⟨.bool true, by simpa using he, by simp [updv], (s.keep hadd).right⟩)⟩) ?_
    refine RXl.value (.ex (.bool true)) (Free.ex _) rfl rfl rfl rfl (fun ρ w' j hj hI hag => ⟨_, (by obtain ⟨vs2, w2, hJ2, e2⟩ := hag.so 98 _ rfl rfl rfl; have e := e2.symm.trans hJ2.1; have e94 := hag.ex 94 _ rfl rfl rfl; simp [execOp, go_sem, e, e94]), rfl⟩) ?_
    refine RXl.exact (.bool true) rfl rfl rfl rfl rfl (fun _ _ _ _ _ => rfl) ?_
    refine RXl.callr (.bool true) _ [] [] _ rfl rfl rfl rfl rfl rfl (fun _ => rfl) (fun j τ w' hj hJ => (by obtain ⟨vs, hv, hJ⟩ := hJ; exact Calls.mono (awake_sj hJ) fun _ _ hz => ⟨hz.1, vs, hv, hz.2⟩)) ?_
    refine RXl.exact (.bool true) rfl rfl rfl rfl rfl (fun _ _ _ _ _ => rfl) ?_
    refine RXl.exact (.bool true) rfl rfl rfl rfl rfl (fun _ _ _ _ _ => rfl) ?_
    refine RXl.nilV _ (AgrL.upd _ _ (AgrL.upd _ _ (AgrL.upd _ _ (AgrL.upd _ _ (AgrL.upd _ _ (AgrL.unk 98 _ rfl (AgrL.upd _ _ (AgrL.unk 96 _ rfl (AgrL.upd _ _ (AgrL.upd _ _ (AgrL.upd _ _ (AgrL.upd _ _ (AgrL.base _))))))))))))) (by decide) (by decide) fun vs w14 hJ => ?_
    simp only [puts, Act.put, List.setIfInBounds_toArray, List.set_cons_succ, List.set_cons_zero]
    have S20 := Lib.hid hJ.2.below
    clear hJ S19
    go_wp2_with fail
    go_ret
    exact ⟨rfl, S20.out⟩
end Go.Proofs.Ytkkkncchinejmaa.TrL
