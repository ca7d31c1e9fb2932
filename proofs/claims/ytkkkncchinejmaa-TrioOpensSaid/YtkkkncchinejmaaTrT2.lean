/- TrioOpens, walked. -/
import Derived.Test.YtkkkncchinejmaaTrT
import Derived.Test.YtkkkncchinejmaaTrK2
import Derived.Test.YtkkkncchinejmaaIs
set_option linter.unusedSimpArgs false
set_option linter.unusedVariables false
namespace Go.Proofs.Ytkkkncchinejmaa.TrL
open Go Go.RowKit Go.Proofs.Ytkkkncchinejmaa Go.Proofs.Ytkkkncchinejmaa.Sp Go.Proofs.Ytkkkncchinejmaa.Reg Go.Proofs.Ytkkkncchinejmaa.SlW Go.Proofs.Ytkkkncchinejmaa.Fus Go.Proofs.Ytkkkncchinejmaa.TrM Go.Proofs.Ytkkkncchinejmaa.TapW Go.Proofs.Ytkkkncchinejmaa.TrW Go.Proofs.Ytkkkncchinejmaa.Str
section
variable {B : Nat} {w0 : World} {R : HP}
theorem rd_front {w : World} {a : Option Addr} {xs : List Value} (h : Rd w a xs) (m : Nat) : Rd w a (xs.take m) := by
  rcases h with rfl | ⟨b, off, rfl, hc⟩
  · exact .inl (by simp)
  · refine .inr ⟨b, off, rfl, fun j u hj => hc j u ?_⟩
    rw [List.getElem?_take] at hj
    split at hj
    · exact hj
    · cases hj
theorem bs_front {w : World} {a : Option Addr} {n c : Nat} {bs : List UInt8} (h : BS w (.slice a n c) bs) (m : Nat) (hm : m ≤ bs.length) : BS w (.slice a m c) (bs.take m) := by
  obtain ⟨-, h2, h3, h4, h5⟩ := h.rd
  refine ⟨a, c, by rw [List.length_take, Nat.min_eq_left hm], by rw [List.length_take]; omega, h3, h4, ?_⟩
  rw [show bvs (bs.take m) = (bvs bs).take m by simp [bvs]]
  exact rd_front h5 m
theorem reads_front {e : TypeId} {a : Option Addr} {n c : Nat} {bs : List UInt8} (m : Nat) (hm : m ≤ bs.length) : Reads B w0 (row e 1 (.slice a n c) n (bvs bs)) (.slice a m c) (bs.take m) := fun _ _ s =>
  bs_front (s.eq (sep_comm _ _)).bs m hm
theorem tap_calls (x : Option Addr) (ps : List Nat) (Ts : List Tp) (i : Nat) (F : Option Fu) (bs : List UInt8) (a : Option Addr) (n c : Nat) (hn : n ≤ 4611686018427387904) (h1 : i < ps.length) (h2 : i < Ts.length) (w : World) (hb : Reads B w0 R (.slice a n c) bs) (s : St B w0 w (tps x ps Ts * (fz (.pointer x) F * R))) :
    Calls Try.prog 23 #[pp (ps.getD i 0), .slice a n c] w (RetS B w0 (tps x ps (Ts.set i (tApp F (Ts.getD i Tp.new) bs).2.2) * (fz (.pointer x) (tApp F (Ts.getD i Tp.new) bs).2.1 * R)) (.int .i64 (tApp F (Ts.getD i Tp.new) bs).1)) :=
  (append_calls F (Ts.getD i Tp.new) bs _ x a n c w (R := tps x (ps.eraseIdx i) (Ts.eraseIdx i) * R) (reads_left _ hb) hn ((tps_out (get_p h1) (get_T h2) s).eq (by ac_rfl))).mono fun _ _ ⟨e, s⟩ => ⟨e, tps_in (get_p h1) h2 (s.eq (by ac_rfl))⟩
theorem tsy_calls (x : Option Addr) (ps : List Nat) (Ts : List Tp) (i : Nat) (F : Option Fu) (h1 : i < ps.length) (h2 : i < Ts.length) (w : World) (s : St B w0 w (tps x ps Ts * (fz (.pointer x) F * R))) :
    Calls Try.prog 24 #[pp (ps.getD i 0)] w (RetS B w0 (tps x ps (Ts.set i (tSync F (Ts.getD i Tp.new)).2) * (fz (.pointer x) F * R)) (.int .i64 (tSync F (Ts.getD i Tp.new)).1)) :=
  (sync_calls F (Ts.getD i Tp.new) _ x w (R := tps x (ps.eraseIdx i) (Ts.eraseIdx i) * R) ((tps_out (get_p h1) (get_T h2) s).eq (by ac_rfl))).mono fun _ _ ⟨e, s⟩ => ⟨e, tps_in (get_p h1) h2 (s.eq (by ac_rfl))⟩
end
theorem part_of (n : Int) (l : Nat) : ∃ y m : Nat, n % 65536 = (y : Int) ∧ Int.tmod (y : Int) ((l : Int) + 1) = (m : Int) ∧ m ≤ l := by
  refine ⟨(n % 65536).toNat, (n % 65536).toNat % (l + 1), by omega, ?_, ?_⟩
  · rw [Int.tmod_eq_emod_of_nonneg (by omega)]
    generalize (n % 65536).toNat = y
    rw [Int.natCast_emod, Int.natCast_add]
    rfl
  · have := Nat.mod_lt (n % 65536).toNat (show 0 < l + 1 by omega)
    omega
/-- The tapes while the last record's part is put on the j-th. -/
def PT3 (L : List (List UInt8)) (r : List UInt8) (m0 m1 m2 j i : Nat) : List Tp :=
  if i = 0 then prs L r m0 m1 m2 j else if i = 1 then (prs L r m0 m1 m2 j).set j ⟨jn L ++ (jn1 r).take ([m0, m1, m2].getD j 0), ((jn1 r).take ([m0, m1, m2].getD j 0)).length, false⟩ else prs L r m0 m1 m2 (j + 1)
/-- What is owned while the tapes crash. -/
def CQ (g9 : Nat) (x : Option Addr) (p0 p1 p2 gl : Nat) (n0 n1 n2 : Int) (T0 T1 T2 : Tp) (Z : HP) (j : Nat) : HP :=
  tps x [p0, p1, p2] (crs T0 T1 T2 n0 n1 n2 j) * (pts gl (.cells #[pp p0, pp p1, pp p2] 43 (0, 0)) * (pts g9 (.cells #[.int .i64 n0, .int .i64 n1, .int .i64 n2] 34 (0, 0)) * Z))
theorem cq_cell {B : Nat} {w0 w : World} {g9 : Nat} {x : Option Addr} {p0 p1 p2 gl : Nat} {n0 n1 n2 : Int} {T0 T1 T2 : Tp} {Z : HP} {m : Nat} (s : St B w0 w (CQ g9 x p0 p1 p2 gl n0 n1 n2 T0 T1 T2 Z m)) (j : Nat) (hj : j < 3) :
    w.cell? ⟨gl, j, none⟩ = some (pp ([p0, p1, p2].getD j 0)) ∧ w.cell? ⟨g9, j, none⟩ = some (.int .i64 ([n0, n1, n2].getD j 0)) := by
  have s1 := s.right
  have s2 := s1.right
  obtain rfl | rfl | rfl : j = 0 ∨ j = 1 ∨ j = 2 := by omega
  · exact ⟨s1.cell 0, s2.cell 0⟩
  · exact ⟨s1.cell 1, s2.cell 1⟩
  · exact ⟨s1.cell 2, s2.cell 2⟩
theorem cq_crash {B : Nat} {w0 w : World} {g9 : Nat} {x : Option Addr} {p0 p1 p2 gl : Nat} {n0 n1 n2 : Int} {T0 T1 T2 : Tp} {Z : HP} {j : Nat} (s : St B w0 w (CQ g9 x p0 p1 p2 gl n0 n1 n2 T0 T1 T2 Z j)) (h0 : n0 ≤ 9223372036854775807) (h1 : n1 ≤ 9223372036854775807) (h2 : n2 ≤ 9223372036854775807) (hj : j < 3) :
    Calls Try.prog 20 #[pp ([p0, p1, p2].getD j 0), .int .i64 ([n0, n1, n2].getD j 0)] w (RetS B w0 (CQ g9 x p0 p1 p2 gl n0 n1 n2 T0 T1 T2 Z (j + 1)) (.tuple #[])) := by
  refine (tcrash_calls x [p0, p1, p2] _ j ([n0, n1, n2].getD j 0) ?_ (by simpa using hj) (by simpa [crs] using hj) w s).mono fun e w' h => ?_
  · obtain rfl | rfl | rfl : j = 0 ∨ j = 1 ∨ j = 2 := by omega
    · exact h0
    · exact h1
    · exact h2
  · rw [crs_step _ _ _ _ _ _ _ hj] at h
    exact h
set_option maxRecDepth 100000 in
set_option maxHeartbeats 32000000 in
theorem opens_walk (a : Option Addr) (ca : Nat) (rs : List (List UInt8)) (a1 : Option Addr) (c1 : Nat) (r : List UInt8) (n0 n1 n2 : Int) (a3 : Option Addr) (c3 : Nat) (fs : List Int) (q0 q1 q2 : Int) (W : World)
    (hrs : BSS W (.slice a rs.length ca) rs) (hr : BS W (.slice a1 r.length c1) r) (_y1 : r.length * 1 ≤ 140737488351232) (_k0 : (Lit.int .i64 n0).wf = true) (_k1 : (Lit.int .i64 n1).wf = true) (_k2 : (Lit.int .i64 n2).wf = true)
    (hfs : IS W (.slice a3 fs.length c3) fs) (_y3 : fs.length * 8 ≤ 140737488351232) (_j0 : (Lit.int .i64 q0).wf = true) (_j1 : (Lit.int .i64 q1).wf = true) (_j2 : (Lit.int .i64 q2).wf = true) :
    Calls Try.prog 6 #[.slice a rs.length ca, .slice a1 r.length c1, .agg #[.int .i64 n0, .int .i64 n1, .int .i64 n2], .slice a3 fs.length c3, .agg #[.int .i64 q0, .int .i64 q1, .int .i64 q2]] W fun e w' => e = .returned (.bool true) ∧ Below W.heap.size W w' := by
  have hcA := hrs.open'.2.1
  have hcM := hrs.open'.2.2.1
  unfold maxLen at hcM
  have hm0 : q0 ≤ 9223372036854775807 := by simpa [Lit.wf, IntKind.min, IntKind.max, IntKind.signed, IntKind.bits] using (by simpa [Lit.wf, IntKind.min, IntKind.max, IntKind.signed, IntKind.bits] using _j0 : _ ∧ _).2
  have hm1 : q1 ≤ 9223372036854775807 := by simpa [Lit.wf, IntKind.min, IntKind.max, IntKind.signed, IntKind.bits] using (by simpa [Lit.wf, IntKind.min, IntKind.max, IntKind.signed, IntKind.bits] using _j1 : _ ∧ _).2
  have hm2 : q2 ≤ 9223372036854775807 := by simpa [Lit.wf, IntKind.min, IntKind.max, IntKind.signed, IntKind.bits] using (by simpa [Lit.wf, IntKind.min, IntKind.max, IntKind.signed, IntKind.bits] using _j2 : _ ∧ _).2
  clear _j0 _j1 _j2 _k0 _k1 _k2
  have s0 := ((St.init W).alloc (.cells #[.int .i64 n0, .int .i64 n1, .int .i64 n2] 34)).alloc (.cells #[.int .i64 q0, .int .i64 q1, .int .i64 q2] 34)
  rw [show (W.alloc (.cells #[.int .i64 n0, .int .i64 n1, .int .i64 n2] 34)).heap.size = W.heap.size + 1 by simp] at s0
  have S0 := Lib.hid s0
  have Hrs := Lib.hid hrs
  have Hr := Lib.hid hr
  have Hfs := Lib.hid hfs
  clear hrs hr hfs
  clear s0
  generalize hY : pts (W.heap.size + 1) (.cells #[.int .i64 q0, .int .i64 q1, .int .i64 q2] 34 (0, 0)) * (pts W.heap.size (.cells #[.int .i64 n0, .int .i64 n1, .int .i64 n2] 34 (0, 0)) * emp) = Y0 at *
  have HY := Lib.hid hY
  clear hY
  by_cases hok : ¬ (1 ≤ r.length ∧ r.length ≤ 250)
  · have h1 : ((r.length : Int) == 0) = true ∧ ¬ (250 : Int) < (r.length : Int) ∨ (250 : Int) < (r.length : Int) := by
      by_cases h : r.length = 0
      · exact .inl ⟨by rw [beq_iff_eq]; omega, by omega⟩
      · exact .inr (by omega)
    clear hok
    rcases h1 with ⟨h1, h2⟩ | h1
    all_goals
      go_enter Try.func6, Try.ntmps6
      go_wp2_with fail
      refine (newFuse_calls 0 _ (by omega) S0.out).mono ?_
      rintro e w1 ⟨fv, rfl, s1⟩
      obtain ⟨fb, rfl, -, -⟩ := fz_some s1
      have S1 := Lib.hid s1
      clear s1 S0
      go_wp2_with fail
      refine (newt_calls (some ⟨fb, 0, none⟩) w1 S1.out).mono ?_
      rintro e w2 ⟨b, p0, p1, p2, rfl, s2⟩
      have S2 := Lib.hid s2
      clear s2 S1
      go_wp2_with fail
      refine (awake_calls _).mono ?_
      rintro e w3 ⟨rfl, h2⟩
      have HA := Lib.hid (S2.out.keep h2)
      clear h2
      go_wp2_with fail
      go_ret
      exact ⟨rfl, HA.out.below⟩
  · have hor : okr r := by by_cases h : (1 ≤ r.length ∧ r.length ≤ 250); exact h; exact absurd h hok
    have h1 : ((r.length : Int) == 0) = false := by rw [beq_eq_false_iff_ne]; have := hor.1; omega
    have h2 : ¬ (250 : Int) < (r.length : Int) := by have := hor.2; omega
    have Hor := Lib.hid hor
    clear hor
    clear hok
    go_enter Try.func6, Try.ntmps6
    go_wp2_with fail
    refine (newFuse_calls 0 _ (by omega) S0.out).mono ?_
    rintro e w1 ⟨fv, rfl, s1⟩
    obtain ⟨fb, rfl, -, -⟩ := fz_some s1
    have S1 := Lib.hid s1
    clear s1 S0
    go_wp2_with fail
    refine (newt_calls (some ⟨fb, 0, none⟩) w1 S1.out).mono ?_
    rintro e w2 ⟨b, p0, p1, p2, rfl, s2⟩
    have S3 := Lib.hid (show St W.heap.size W w2 (trx b (some ⟨fb, 0, none⟩) [p0, p1, p2] 0 (fam 3 [] []) (some (Fu.new 0)) * Y0) from s2.eq (by rw [trx_eq]; show tro b p0 p1 p2 0 * (tps (some ⟨fb, 0, none⟩) [p0, p1, p2] [Tp.new, Tp.new, Tp.new] * _) = tro b p0 p1 p2 0 * (tps (some ⟨fb, 0, none⟩) [p0, p1, p2] [Tp.new, Tp.new, Tp.new] * _) * _; ac_rfl))
    clear s2 S1
    go_wp2_with fail
    go_loopw [13] (fun i wr => ∃ (k : Nat), k ≤ rs.length ∧ k ≤ 10 ∧ i = .int .i64 k ∧ (∀ r ∈ rs.take k, okr r) ∧ St W.heap.size W wr (trx b (some ⟨fb, 0, none⟩) [p0, p1, p2] k (fam 3 (jn (rs.take k)) []) (some (Fu.new 0)) * Y0)) (fun i _ => 10 - (intOf i).toNat)
    case atStart => exact ⟨0, Nat.zero_le _, by omega, rfl, by simp, by simpa [jn] using S3.out⟩
    case round =>
      obtain ⟨k, hk, hk10, rfl, hokL, s4⟩ := hrel
      clear S3
      by_cases hlt : k < rs.length ∧ k < 10
      · obtain ⟨hlt, hlt10⟩ := hlt
        obtain ⟨-, -, -, -, us, hru, hlv, hbu⟩ := Hrs.out.open'
        obtain ⟨u, hu, hbu⟩ := hbu k hlt
        obtain ⟨ar, cr, rfl, -⟩ := id hbu
        obtain ⟨b1, o1, rfl, hc⟩ := hru.at (by rintro rfl; rw [List.length_nil] at hlv; omega)
        have hcw : wr.cell? ⟨b1, o1 + k, none⟩ = some (.slice ar rs[k].length cr) := Add.cell s4.below (hc k _ hu)
        have hbs : BS W (.slice ar rs[k].length cr) rs[k] := hbu
        have hrm : (rs[k].length : Int) ≤ 9223372036854775807 := by have := hbu.rd.2; unfold maxLen at this; omega
        have hjl := jn_len_max _ hokL
        have hsu : rs.take (k + 1) = rs.take k ++ [rs[k]] := List.take_succ_eq_append_getElem hlt
        have hlL : (rs.take k).length = k := by rw [List.length_take]; omega
        rw [hlL] at hjl
        have t1 : (k : Int) < (rs.length : Int) := by omega
        have t2 : (k : Int) < 10 := by omega
        generalize rs.take k = L at *
        generalize rs[k] = r1 at *
        have Hbs := Lib.hid hbs
        have Hsu := Lib.hid hsu
        have HokL := Lib.hid hokL
        have HlL := Lib.hid hlL
        clear hbs hsu hokL hlL
        clear hru hlv hbu hc hu
        by_cases hr3 : 1 ≤ r1.length ∧ r1.length ≤ 250
        · have hor1 : okr r1 := hr3
          have h3 : ((r1.length : Int) == 0) = false := by rw [beq_eq_false_iff_ne]; omega
          have h4 : ¬ (250 : Int) < (r1.length : Int) := by omega
          have qa := tappend_calls (some (Fu.new 0)) (fam 3 (jn L) []) k r1 b p0 p1 p2 (some ⟨fb, 0, none⟩) ar cr rfl (by omega) (by omega) wr (R := Y0) (reads_arg _ Hbs.out) s4
          rw [app_und und_zero (jn L) k r1 hor1 (by omega)] at qa
          have Qa := Lib.hid qa
          have e1 : jn L ++ jn1 r1 = jn (L ++ [r1]) := (jn_snoc L r1).symm
          have E1 := Lib.hid e1
          clear e1
          clear qa hr3 s4
          go_wp2_with fail
          refine Qa.out.mono ?_
          rintro e w5 ⟨rfl, s5⟩
          have s5 : St W.heap.size W w5 (trx b (some ⟨fb, 0, none⟩) [p0, p1, p2] (k + 1) (fam 3 (jn L ++ jn1 r1) []) (some (Fu.new 0)) * Y0) := s5
          rw [E1.out] at s5
          have S5 := Lib.hid s5
          clear s5 Qa
          go_wp2_with fail
          go_roundw
          case rel =>
            refine ⟨k + 1, by omega, by omega, by go_num, ?_, ?_⟩
            · rw [Hsu.out]
              intro x hx
              rcases List.mem_append.1 hx with h | h
              · exact HokL.out x h
              · rw [List.mem_singleton.1 h]; exact hor1
            · rw [Hsu.out]
              exact S5.out
          case measure => simp [intOf]; omega
        · have h1 : ((r1.length : Int) == 0) = true ∧ ¬ (250 : Int) < (r1.length : Int) ∨ (250 : Int) < (r1.length : Int) := by
            by_cases h : r1.length = 0
            · exact .inl ⟨by rw [beq_iff_eq]; omega, by omega⟩
            · exact .inr (by omega)
          have S5 := Lib.hid s4
          clear s4 hr3
          rcases h1 with ⟨h1, h2⟩ | h1
          all_goals
            go_wp2_with fail
            refine (awake_calls _).mono ?_
            rintro e w2 ⟨rfl, h2⟩
            have HA := Lib.hid (S5.out.keep h2)
            clear h2
            go_wp2_with fail
            go_ret
            exact ⟨rfl, HA.out.below⟩
      · have h5 : ¬ (k : Int) < (rs.length : Int) ∨ (k : Int) < (rs.length : Int) ∧ ¬ (k : Int) < 10 := by omega
        have hmin : k = min rs.length 10 := by omega
        have hlL : (rs.take k).length = k := by rw [List.length_take]; omega
        have hjl := jn_len_max _ hokL
        rw [hlL] at hjl
        generalize hLd : rs.take k = L at *
        obtain ⟨y0, m0, hy0, hm0', hm0l⟩ := part_of n0 (jn1 r).length
        obtain ⟨y1, m1, hy1, hm1', hm1l⟩ := part_of n1 (jn1 r).length
        obtain ⟨y2, m2, hy2, hm2', hm2l⟩ := part_of n2 (jn1 r).length
        have S8 := Lib.hid (show St W.heap.size W wr (trx b (some ⟨fb, 0, none⟩) [p0, p1, p2] k (prs L r m0 m1 m2 0) (some (Fu.new 0)) * Y0) from s4)
        have HokL := Lib.hid hokL
        have HlL := Lib.hid hlL
        have HLd := Lib.hid hLd
        have Hmin := Lib.hid hmin
        have Hm0' := Lib.hid hm0'
        have Hm1' := Lib.hid hm1'
        have Hm2' := Lib.hid hm2'
        have Hy0 := Lib.hid hy0
        have Hy1 := Lib.hid hy1
        have Hy2 := Lib.hid hy2
        have Hm0l := Lib.hid hm0l
        have Hm1l := Lib.hid hm1l
        have Hm2l := Lib.hid hm2l
        clear hokL hlL hLd hmin hm0' hm1' hm2' hy0 hy1 hy2 hm0l hm1l hm2l
        clear s4 hlt
        rcases h5 with h5 | ⟨h5, h6⟩
        · skip
          go_wp2_with fail
          refine (tapes_calls b p0 p1 p2 k _ (R := tps (some ⟨fb, 0, none⟩) [p0, p1, p2] (prs L r m0 m1 m2 0) * (fz (.pointer (some ⟨fb, 0, none⟩)) (some (Fu.new 0)) * Y0)) (S8.out.eq (by rw [trx_eq]; ac_rfl))).mono ?_
          rintro e w9 ⟨rfl, s9⟩
          have s9a := s9.alloc (.cells #[pp p0, pp p1, pp p2] 43)
          have S9 := Lib.hid s9a
          clear s9 s9a S8
          have hx : Value.int .u8 (r.length : Int) = bv (UInt8.ofNat r.length) := by
            have := Hor.out.2
            show Value.int .u8 (r.length : Int) = .int .u8 ((UInt8.ofNat r.length).toNat : Int)
            rw [UInt8.toNat_ofNat', Nat.mod_eq_of_lt (by omega)]
          have s10 := (S9.out.alloc (.cells #[.int .u8 (r.length : Int)] 5)).rowMk (e := 5) (size := 1) (n := 1) (cap := 1) (xs := bvs [UInt8.ofNat r.length]) (by omega) (by unfold maxLen; omega) (by simp) (by rw [hx]; simp [bvs])
          rw [show (w9.alloc (.cells #[pp p0, pp p1, pp p2] 43)).heap.size = w9.heap.size + 1 by simp] at s10
          have S10 := Lib.hid s10
          have hb10 := Lib.hid (Hr.out.st rfl s10)
          clear s10 hx S9
          have hjn : [UInt8.ofNat r.length] ++ r = jn1 r := rfl
          have Hjn := Lib.hid hjn
          clear hjn
          go_wp2_with (at_builtin; go_must (refine wpl_appendB rfl _ _ rfl tB S10.out a1 r.length c1 hb10.out rfl rfl (by simp; omega) ?_); intro a2 c2 w10 s10; rw [Hjn.out] at s10; rw [Hjn.out]; have S11 := Lib.hid s10; clear s10 S10 hb10)
          obtain ⟨nb, hnb⟩ : ∃ nb, nb = (jn1 r).length := ⟨_, rfl⟩
          have hnb2 : nb ≤ 251 := by have := Hor.out.2; rw [hnb, jn1_len]; omega
          rw [← hnb]
          have s11 := S11.out
          rw [← hnb] at s11
          have S12 := Lib.hid (s11.eq (Q := tps (some ⟨fb, 0, none⟩) [p0, p1, p2] (prs L r m0 m1 m2 0) * (fz (.pointer (some ⟨fb, 0, none⟩)) (some (Fu.new 0)) * (row 5 1 (.slice a2 nb c2) nb (bvs (jn1 r)) * (pts w9.heap.size (.cells #[pp p0, pp p1, pp p2] 43) * (tro b p0 p1 p2 k * Y0))))) (by ac_rfl))
          generalize w9.heap.size = gl at *
          have Hnb := Lib.hid hnb
          clear hnb
          clear s11 S11
          go_loopw [16, 17] (fun v16 i wr => ∃ j : Nat, j ≤ 3 ∧ v16 = .int .i64 (wh nb m0 m1 m2 j : Nat) ∧ i = .int .i64 j ∧ St W.heap.size W wr (tps (some ⟨fb, 0, none⟩) [p0, p1, p2] (prs L r m0 m1 m2 j) * (fz (.pointer (some ⟨fb, 0, none⟩)) (some (Fu.new 0)) * (row 5 1 (.slice a2 nb c2) nb (bvs (jn1 r)) * (pts gl (.cells #[pp p0, pp p1, pp p2] 43) * (tro b p0 p1 p2 k * Y0)))))) (fun _ i _ => 3 - (intOf i).toNat)
          case atStart => exact ⟨0, Nat.zero_le _, rfl, rfl, S12.out⟩
          case round =>
            obtain ⟨j, hj, rfl, rfl, s12⟩ := hrel
            clear S12
            by_cases hjt : j < 3
            · have hjI : (j : Int) < 3 := by omega
              obtain ⟨pj, hpj⟩ : ∃ z, [p0, p1, p2].getD j 0 = z := ⟨_, rfl⟩
              obtain ⟨nj, hnj⟩ : ∃ z, [n0, n1, n2].getD j 0 = z := ⟨_, rfl⟩
              obtain ⟨mj, hmj⟩ : ∃ z, [m0, m1, m2].getD j 0 = z := ⟨_, rfl⟩
              obtain ⟨yj, hyj, htj, hmjl⟩ : ∃ yj : Nat, nj % 65536 = (yj : Int) ∧ Int.tmod (yj : Int) ((nb : Int) + 1) = (mj : Int) ∧ mj ≤ nb := by
                rw [← hnj, ← hmj, Hnb.out]
                obtain rfl | rfl | rfl : j = 0 ∨ j = 1 ∨ j = 2 := by omega
                · exact ⟨y0, Hy0.out, Hm0'.out, Hm0l.out⟩
                · exact ⟨y1, Hy1.out, Hm1'.out, Hm1l.out⟩
                · exact ⟨y2, Hy2.out, Hm2'.out, Hm2l.out⟩
              have hand := and_m16 nj
              rw [hyj] at hand
              have hz0 : ((nb : Int) + 1 == 0) = false := by rw [beq_eq_false_iff_ne]; omega
              have hws := wh_step nb m0 m1 m2 j hjt
              rw [hmj] at hws
              have hwl := wh_le nb m0 m1 m2 j
              have hgl := fun (i : Nat) (w : World) (s : St W.heap.size W w (tps (some ⟨fb, 0, none⟩) [p0, p1, p2] (PT3 L r m0 m1 m2 j i) * (fz (.pointer (some ⟨fb, 0, none⟩)) (some (Fu.new 0)) * (row 5 1 (.slice a2 nb c2) nb (bvs (jn1 r)) * (pts gl (.cells #[pp p0, pp p1, pp p2] 43) * (tro b p0 p1 p2 k * Y0)))))) => (show w.cell? ⟨gl, j, none⟩ = some (pp pj) by
                have s2 := s.right.right.right
                rw [← hpj]
                obtain rfl | rfl | rfl : j = 0 ∨ j = 1 ∨ j = 2 := by omega
                · exact s2.cell 0
                · exact s2.cell 1
                · exact s2.cell 2)
              have c1w := hgl 0 wr s12
              have c2w : wr.cell? ⟨W.heap.size, j, none⟩ = some (.int .i64 nj) := by
                have s2 := s12.right.right.right.right.right
                rw [← HY.out] at s2
                have s3 := s2.right
                rw [← hnj]
                obtain rfl | rfl | rfl : j = 0 ∨ j = 1 ∨ j = 2 := by omega
                · exact s3.cell 0
                · exact s3.cell 1
                · exact s3.cell 2
              have hq1 := fun (w : World) (s : St W.heap.size W w (tps (some ⟨fb, 0, none⟩) [p0, p1, p2] (prs L r m0 m1 m2 j) * (fz (.pointer (some ⟨fb, 0, none⟩)) (some (Fu.new 0)) * (row 5 1 (.slice a2 nb c2) nb (bvs (jn1 r)) * (pts gl (.cells #[pp p0, pp p1, pp p2] 43) * (tro b p0 p1 p2 k * Y0)))))) =>
                tap_calls (some ⟨fb, 0, none⟩) [p0, p1, p2] (prs L r m0 m1 m2 j) j (some (Fu.new 0)) ((jn1 r).take mj) a2 mj c2 (by omega) (by simpa using hjt) (by rw [prs_len]; exact hjt) w (reads_right _ (reads_front mj (by rw [← Hnb.out]; exact hmjl))) s
              have hlj : (jn L).length + ((jn1 r).take mj).length ≤ 65536 := by rw [List.length_take]; have := Hnb.out; omega
              rw [prs_get _ _ _ _ _ _ hjt, tapp_und und_zero _ _ hlj, hpj] at hq1
              have hq2 := fun (w : World) (s : St W.heap.size W w (tps (some ⟨fb, 0, none⟩) [p0, p1, p2] ((prs L r m0 m1 m2 j).set j ⟨jn L ++ (jn1 r).take mj, ((jn1 r).take mj).length, false⟩) * (fz (.pointer (some ⟨fb, 0, none⟩)) (some (Fu.new 0)) * (row 5 1 (.slice a2 nb c2) nb (bvs (jn1 r)) * (pts gl (.cells #[pp p0, pp p1, pp p2] 43) * (tro b p0 p1 p2 k * Y0)))))) =>
                tsy_calls (some ⟨fb, 0, none⟩) [p0, p1, p2] _ j (some (Fu.new 0)) (by simpa using hjt) (by rw [List.length_set, prs_len]; exact hjt) w s
              rw [prs_set_get _ _ _ _ _ _ hjt, tsync_und und_zero, hpj] at hq2
              have hps := prs_set L r m0 m1 m2 j hjt ⟨jn L ++ (jn1 r).take mj, ((jn1 r).take mj).length, false⟩
              rw [hmj] at hps
              rw [hps] at hq2
              have hPT1 : PT3 L r m0 m1 m2 j 1 = (prs L r m0 m1 m2 j).set j ⟨jn L ++ (jn1 r).take mj, ((jn1 r).take mj).length, false⟩ := by unfold PT3; rw [hmj]; simp
              rw [← hPT1] at hq1 hq2
              have hmc : (mj : Int) ≤ (nb : Int) := by omega
              obtain ⟨_, _, hcq, hnc, -, -, -⟩ := (s12.eq (Q := row 5 1 (.slice a2 nb c2) nb (bvs (jn1 r)) * (tps (some ⟨fb, 0, none⟩) [p0, p1, p2] (prs L r m0 m1 m2 j) * (fz (.pointer (some ⟨fb, 0, none⟩)) (some (Fu.new 0)) * (pts gl (.cells #[pp p0, pp p1, pp p2] 43) * (tro b p0 p1 p2 k * Y0))))) (by ac_rfl)).rowSlice
              cases hcq
              have hmc2 : mj ≤ c2 := by omega
              have S12 := Lib.hid s12
              have Hgl := Lib.hid hgl
              have Hq1 := Lib.hid hq1
              have Hq2 := Lib.hid hq2
              clear hgl hq1 hq2
              clear s12 hpj hnj hmj hyj hps hPT1 hlj
              by_cases hmn : mj = nb
              · have e1 : ((mj : Int) == (nb : Int)) = true := by rw [beq_iff_eq]; omega
                rw [if_pos hmn] at hws
                have Hws := Lib.hid hws
                have Hmn := Lib.hid hmn
                clear hws hmn
                go_wp2_with fail
                refine wp_region_rx (fun i w => St W.heap.size W w (tps (some ⟨fb, 0, none⟩) [p0, p1, p2] (PT3 L r m0 m1 m2 j i) * (fz (.pointer (some ⟨fb, 0, none⟩)) (some (Fu.new 0)) * (row 5 1 (.slice a2 nb c2) nb (bvs (jn1 r)) * (pts gl (.cells #[pp p0, pp p1, pp p2] 43) * (tro b p0 p1 p2 k * Y0)))))) [6, 12] mixed (by kernel_rfl) (by kernel_rfl) S12.out.drew ?_
                refine RXl.exact (.int .i64 j) rfl rfl rfl rfl rfl (fun _ _ _ _ _ => rfl) ?_
                refine RXl.exact (.pointer (some ⟨gl, j, none⟩)) rfl rfl rfl rfl rfl (fun j τ w' hj hJ => by simp [rho, upd, Spec.val, execOp, go_sem, hjI]) ?_
                refine RXl.exact (pp pj) rfl rfl rfl rfl rfl (fun j τ w' hj hJ => by have c := Hgl.out _ _ hJ; simp [rho, upd, Spec.val, execOp, go_sem, c]) ?_
                refine RXl.exact (.slice a2 nb c2) rfl rfl rfl rfl rfl (fun _ _ _ _ _ => rfl) ?_
                refine RXl.exact (.int .i64 mj) rfl rfl rfl rfl rfl (fun _ _ _ _ _ => rfl) ?_
                refine RXl.exact (.slice a2 mj c2) rfl rfl rfl rfl rfl (fun j τ w' hj hJ => by simp [rho, upd, Spec.val, execOp, go_sem, hmc, hmc2]) ?_
                refine RXl.callj 0 (.int .i64 0) _ [pp pj, .slice a2 mj c2] [.tmp 121, .tmp 124] _ rfl rfl rfl rfl rfl rfl (fun _ => rfl) (fun w' hJ => Hq1.out w' hJ) ?_
                refine RXl.exact (.bool false) rfl rfl rfl rfl rfl (fun j τ w' hj hJ => by simp [rho, upd, Spec.val, execOp, go_sem]) ?_
                refine RXl.exact (.bool false) rfl rfl rfl rfl rfl (fun _ _ _ _ _ => rfl) ?_
                refine RXl.exact (.int .i64 j) rfl rfl rfl rfl rfl (fun _ _ _ _ _ => rfl) ?_
                refine RXl.exact (.pointer (some ⟨gl, j, none⟩)) rfl rfl rfl rfl rfl (fun j τ w' hj hJ => by simp [rho, upd, Spec.val, execOp, go_sem, hjI]) ?_
                refine RXl.exact (pp pj) rfl rfl rfl rfl rfl (fun j τ w' hj hJ => by have c := Hgl.out _ _ hJ; simp [rho, upd, Spec.val, execOp, go_sem, c]) ?_
                refine RXl.callj 1 (.int .i64 0) _ [pp pj] [.tmp 130] _ rfl rfl rfl rfl rfl rfl (fun _ => rfl) (fun w' hJ => Hq2.out w' hJ) ?_
                refine RXl.exact (.bool false) rfl rfl rfl rfl rfl (fun j τ w' hj hJ => by simp [rho, upd, Spec.val, execOp, go_sem]) ?_
                refine RXl.exact (.bool false) rfl rfl rfl rfl rfl (fun _ _ _ _ _ => rfl) ?_
                refine RXl.nilx _ (Agr.upd _ _ (Agr.upd _ _ (Agr.upd _ _ (Agr.upd _ _ (Agr.upd _ _ (Agr.upd _ _ (Agr.upd _ _ (Agr.upd _ _ (Agr.upd _ _ (Agr.upd _ _ (Agr.upd _ _ (Agr.upd _ _ (Agr.upd _ _ (Agr.upd _ _ (Agr.upd _ _ (Agr.base _)))))))))))))))) fun w13 hJ => ?_
                obtain ⟨_, hJ⟩ := hJ
                simp only [Act.put, List.setIfInBounds_toArray, List.set_cons_succ, List.set_cons_zero]
                have S13 := Lib.hid (show St W.heap.size W w13 (tps (some ⟨fb, 0, none⟩) [p0, p1, p2] (prs L r m0 m1 m2 (j + 1)) * (fz (.pointer (some ⟨fb, 0, none⟩)) (some (Fu.new 0)) * (row 5 1 (.slice a2 nb c2) nb (bvs (jn1 r)) * (pts gl (.cells #[pp p0, pp p1, pp p2] 43) * (tro b p0 p1 p2 k * Y0))))) from hJ)
                clear hJ S12 Hgl Hq1 Hq2 c1w c2w
                go_wp2_with fail
                go_roundw
                case rel => exact ⟨j + 1, by omega, by rw [Hws.out]; go_num, by go_num, S13.out⟩
                case measure => simp [intOf]; omega
              · have e1 : ((mj : Int) == (nb : Int)) = false := by rw [beq_eq_false_iff_ne]; omega
                rw [if_neg hmn, Nat.add_zero] at hws
                have Hws := Lib.hid hws
                clear hws
                go_wp2_with fail
                refine wp_region_rx (fun i w => St W.heap.size W w (tps (some ⟨fb, 0, none⟩) [p0, p1, p2] (PT3 L r m0 m1 m2 j i) * (fz (.pointer (some ⟨fb, 0, none⟩)) (some (Fu.new 0)) * (row 5 1 (.slice a2 nb c2) nb (bvs (jn1 r)) * (pts gl (.cells #[pp p0, pp p1, pp p2] 43) * (tro b p0 p1 p2 k * Y0)))))) [6, 12] mixed (by kernel_rfl) (by kernel_rfl) S12.out.drew ?_
                refine RXl.exact (.int .i64 j) rfl rfl rfl rfl rfl (fun _ _ _ _ _ => rfl) ?_
                refine RXl.exact (.pointer (some ⟨gl, j, none⟩)) rfl rfl rfl rfl rfl (fun j τ w' hj hJ => by simp [rho, upd, Spec.val, execOp, go_sem, hjI]) ?_
                refine RXl.exact (pp pj) rfl rfl rfl rfl rfl (fun j τ w' hj hJ => by have c := Hgl.out _ _ hJ; simp [rho, upd, Spec.val, execOp, go_sem, c]) ?_
                refine RXl.exact (.slice a2 nb c2) rfl rfl rfl rfl rfl (fun _ _ _ _ _ => rfl) ?_
                refine RXl.exact (.int .i64 mj) rfl rfl rfl rfl rfl (fun _ _ _ _ _ => rfl) ?_
                refine RXl.exact (.slice a2 mj c2) rfl rfl rfl rfl rfl (fun j τ w' hj hJ => by simp [rho, upd, Spec.val, execOp, go_sem, hmc, hmc2]) ?_
                refine RXl.callj 0 (.int .i64 0) _ [pp pj, .slice a2 mj c2] [.tmp 121, .tmp 124] _ rfl rfl rfl rfl rfl rfl (fun _ => rfl) (fun w' hJ => Hq1.out w' hJ) ?_
                refine RXl.exact (.bool false) rfl rfl rfl rfl rfl (fun j τ w' hj hJ => by simp [rho, upd, Spec.val, execOp, go_sem]) ?_
                refine RXl.exact (.bool false) rfl rfl rfl rfl rfl (fun _ _ _ _ _ => rfl) ?_
                refine RXl.exact (.int .i64 j) rfl rfl rfl rfl rfl (fun _ _ _ _ _ => rfl) ?_
                refine RXl.exact (.pointer (some ⟨gl, j, none⟩)) rfl rfl rfl rfl rfl (fun j τ w' hj hJ => by simp [rho, upd, Spec.val, execOp, go_sem, hjI]) ?_
                refine RXl.exact (pp pj) rfl rfl rfl rfl rfl (fun j τ w' hj hJ => by have c := Hgl.out _ _ hJ; simp [rho, upd, Spec.val, execOp, go_sem, c]) ?_
                refine RXl.callj 1 (.int .i64 0) _ [pp pj] [.tmp 130] _ rfl rfl rfl rfl rfl rfl (fun _ => rfl) (fun w' hJ => Hq2.out w' hJ) ?_
                refine RXl.exact (.bool false) rfl rfl rfl rfl rfl (fun j τ w' hj hJ => by simp [rho, upd, Spec.val, execOp, go_sem]) ?_
                refine RXl.exact (.bool false) rfl rfl rfl rfl rfl (fun _ _ _ _ _ => rfl) ?_
                refine RXl.nilx _ (Agr.upd _ _ (Agr.upd _ _ (Agr.upd _ _ (Agr.upd _ _ (Agr.upd _ _ (Agr.upd _ _ (Agr.upd _ _ (Agr.upd _ _ (Agr.upd _ _ (Agr.upd _ _ (Agr.upd _ _ (Agr.upd _ _ (Agr.upd _ _ (Agr.upd _ _ (Agr.upd _ _ (Agr.base _)))))))))))))))) fun w13 hJ => ?_
                obtain ⟨_, hJ⟩ := hJ
                simp only [Act.put, List.setIfInBounds_toArray, List.set_cons_succ, List.set_cons_zero]
                have S13 := Lib.hid (show St W.heap.size W w13 (tps (some ⟨fb, 0, none⟩) [p0, p1, p2] (prs L r m0 m1 m2 (j + 1)) * (fz (.pointer (some ⟨fb, 0, none⟩)) (some (Fu.new 0)) * (row 5 1 (.slice a2 nb c2) nb (bvs (jn1 r)) * (pts gl (.cells #[pp p0, pp p1, pp p2] 43) * (tro b p0 p1 p2 k * Y0))))) from hJ)
                clear hJ S12 Hgl Hq1 Hq2 c1w c2w
                go_wp2_with fail
                go_roundw
                case rel => exact ⟨j + 1, by omega, by rw [Hws.out]; go_num, by go_num, S13.out⟩
                case measure => simp [intOf]; omega
            · obtain rfl : j = 3 := by omega
              rw [show ((3 : Nat) : Int) = (3 : Int) from rfl]
              have hiv := prs_iv L r m0 m1 m2 Hm0l.out Hm1l.out Hm2l.out
              have hty := prs_ty L r m0 m1 m2
              rw [← Hnb.out] at hiv
              generalize prs L r m0 m1 m2 3 = Ts at *
              generalize wh nb m0 m1 m2 3 = wn at *
              have S14 := Lib.hid s12
              have Hiv := Lib.hid hiv
              have Hty := Lib.hid hty
              clear hiv hty
              clear s12
              by_cases hw2 : 2 ≤ wn
              · have hwI : (2 : Int) ≤ (wn : Int) := by omega
                have Hwt := Lib.hid (show ((L ++ tl true r).length : Int) = ((rs.length : Int) + 1) by rw [lt_len, HlL.out]; (first | omega | (simp; omega) | (simp; done)))
                have hiv2 := Hiv.out
                rw [decide_eq_true hw2] at hiv2
                clear Hiv
                have Hiv := Lib.hid hiv2
                clear hiv2
                go_wp2_with fail
                as_aux_lemma =>
                  go_loopw [20] (fun i wr => ∃ (q : Nat) (Ts : List Tp) (F : Fu) (Z : HP), q ≤ fs.length ∧ q ≤ 6 ∧ i = .int .i64 q ∧ Iv L r true Ts ∧ (∀ i, i < 3 → TY L r (Ts.getD i Tp.new)) ∧ St W.heap.size W wr (tps (some ⟨fb, 0, none⟩) [p0, p1, p2] Ts * (fz (.pointer (some ⟨fb, 0, none⟩)) (some F) * (pts gl (.cells #[pp p0, pp p1, pp p2] 43 (0, 0)) * (pts (W.heap.size + 1) (.cells #[.int .i64 q0, .int .i64 q1, .int .i64 q2] 34 (0, 0)) * Z))))) (fun i _ => 6 - (intOf i).toNat)
                  case atStart => exact ⟨0, Ts, Fu.new 0, row 5 1 (.slice a2 nb c2) nb (bvs (jn1 r)) * (tro b p0 p1 p2 k * (pts W.heap.size (.cells #[.int .i64 n0, .int .i64 n1, .int .i64 n2] 34 (0, 0)) * emp)), Nat.zero_le _, by omega, rfl, Hiv.out, Hty.out, S14.out.eq (by rw [← HY.out]; ac_rfl)⟩
                  case round =>
                    obtain ⟨q, Ts3, F3, Z, hq, hq6, rfl, hiv3, hty3, s15⟩ := hrel
                    clear S14 Hiv Hty
                    have hT3 : Ts3.length = 3 := by obtain ⟨_, _, _, rfl, -⟩ := hiv3; rfl
                    have hjL : (jn L).length + (jn1 r).length ≤ 65536 := by have := Hnb.out; omega
                    by_cases hqt : q < fs.length ∧ q < 6
                    · obtain ⟨hqt, hqt6⟩ := hqt
                      have g1 : (q : Int) < (fs.length : Int) := by omega
                      have g2 : (q : Int) < 6 := by omega
                      obtain ⟨b3, o3, rfl⟩ := Hfs.out.head (by omega)
                      have cq := (Hfs.out.st rfl s15).cellAt q hqt
                      have k1 := and_m3 fs[q]
                      obtain ⟨yq, hyq, hyq8⟩ : ∃ y : Nat, fs[q] % 8 = (y : Int) ∧ y < 8 := ⟨(fs[q] % 8).toNat, by omega, by omega⟩
                      rw [hyq] at k1
                      generalize fs[q] = fq at *
                      have S15 := Lib.hid (s15.eq (Q := fz (.pointer (some ⟨fb, 0, none⟩)) (some F3) * (tps (some ⟨fb, 0, none⟩) [p0, p1, p2] Ts3 * (pts gl (.cells #[pp p0, pp p1, pp p2] 43 (0, 0)) * (pts (W.heap.size + 1) (.cells #[.int .i64 q0, .int .i64 q1, .int .i64 q2] 34 (0, 0)) * Z)))) (by ac_rfl))
                      obtain ⟨F', Ts4, hF', hFs, hiv4, hop⟩ := open_iv W.heap.size W p0 p1 p2 (some ⟨fb, 0, none⟩) (pts gl (.cells #[pp p0, pp p1, pp p2] 43 (0, 0)) * (pts (W.heap.size + 1) (.cells #[.int .i64 q0, .int .i64 q1, .int .i64 q2] 34 (0, 0)) * Z)) (F := some ⟨yq + 1, true⟩) (.inr ⟨_, rfl⟩) HokL.out Hor.out hiv3 hjL
                      obtain ⟨F4, rfl⟩ : ∃ F4, F' = some F4 := Option.isSome_iff_exists.1 (hFs rfl)
                      have Hop := Lib.hid hop
                      have Hiv4 := Lib.hid hiv4
                      clear hop hiv4
                      clear s15 hyq hiv3 hty3 hF' hFs
                      go_wp2_with fail
                      refine (set_calls _ _ ((yq : Int) + 1) _ (by omega) S15.out).mono ?_
                      rintro e w16 ⟨rfl, s16⟩
                      rw [show Fu.new ((yq : Int) + 1) = ⟨yq + 1, true⟩ by unfold Fu.new; congr 1; exact decide_eq_true (by omega)] at s16
                      have s17 := s16.eq (Q := pts gl (.cells #[pp p0, pp p1, pp p2] 43 (0, 0)) * (fz (.pointer (some ⟨fb, 0, none⟩)) (some ⟨yq + 1, true⟩) * (tps (some ⟨fb, 0, none⟩) [p0, p1, p2] Ts3 * (pts (W.heap.size + 1) (.cells #[.int .i64 q0, .int .i64 q1, .int .i64 q2] 34 (0, 0)) * Z)))) (by ac_rfl)
                      have c0 := s17.cell 0
                      have c1' := s17.cell 1
                      have c2' := s17.cell 2
                      simp at c0 c1' c2'
                      have S16 := Lib.hid s16
                      clear s16 s17 S15
                      go_wp2_with fail
                      clear c0 c1' c2'
                      refine (open_calls (some ⟨yq + 1, true⟩) Ts3 p0 p1 p2 (some ⟨fb, 0, none⟩) hT3 w16 (R := pts gl (.cells #[pp p0, pp p1, pp p2] 43 (0, 0)) * (pts (W.heap.size + 1) (.cells #[.int .i64 q0, .int .i64 q1, .int .i64 q2] 34 (0, 0)) * Z)) (S16.out.eq (by ac_rfl))).mono ?_
                      intro e w17 h
                      rcases Hop.out with hy | hn
                      · obtain ⟨X, b5, v5, vs5, rfl, hbr, s18⟩ := hy _ _ h
                        obtain ⟨A5, c5, rfl, -, -, -, -⟩ := hbr.val
                        have hwt2 : (((L ++ tl true r).length : Int) != ((rs.length : Int) + 1)) = false := by rw [Hwt.out]; simp
                        obtain ⟨ln, hln⟩ : ∃ n, (L ++ tl true r).length = n := ⟨_, rfl⟩
                        rw [hln] at hwt2 s18
                        rw [hln]
                        have S18 := Lib.hid (s18.eq (Q := tps (some ⟨fb, 0, none⟩) [p0, p1, p2] Ts4 * (pts gl (.cells #[pp p0, pp p1, pp p2] 43 (0, 0)) * (pts (W.heap.size + 1) (.cells #[.int .i64 q0, .int .i64 q1, .int .i64 q2] 34 (0, 0)) * (fz (.pointer (some ⟨fb, 0, none⟩)) (some F4) * (X * (tro b5 p0 p1 p2 ln * Z)))))) (by rw [trx_eq]; ac_rfl))
                        generalize X * (tro b5 p0 p1 p2 ln * Z) = Z5 at *
                        clear s18 hbr h S16 Hop hy hln
                        as_aux_lemma =>
                          obtain ⟨T0, T1, T2, hTs, -⟩ := id Hiv4.out
                          subst hTs
                          have S19 := Lib.hid (show St W.heap.size W w17 (CQ (W.heap.size + 1) (some ⟨fb, 0, none⟩) p0 p1 p2 gl q0 q1 q2 T0 T1 T2 (fz (.pointer (some ⟨fb, 0, none⟩)) (some F4) * Z5) 0) from S18.out)
                          clear S18
                          go_wp2_with fail
                          go_loopw [24] (fun i wr => ∃ j : Nat, j ≤ 3 ∧ i = .int .i64 j ∧ St W.heap.size W wr (CQ (W.heap.size + 1) (some ⟨fb, 0, none⟩) p0 p1 p2 gl q0 q1 q2 T0 T1 T2 (fz (.pointer (some ⟨fb, 0, none⟩)) (some F4) * Z5) j)) (fun i _ => 3 - (intOf i).toNat)
                          case atStart => exact ⟨0, Nat.zero_le _, rfl, S19.out⟩
                          case round =>
                            obtain ⟨j, hj, rfl, s20⟩ := hrel
                            clear S19
                            by_cases hjt : j < 3
                            · have hjI : (j : Int) < 3 := by omega
                              obtain ⟨pj, hpj⟩ : ∃ z, [p0, p1, p2].getD j 0 = z := ⟨_, rfl⟩
                              obtain ⟨nj, hnj⟩ : ∃ z, [q0, q1, q2].getD j 0 = z := ⟨_, rfl⟩
                              have hg1 := fun (m : Nat) (w : World) (s : St W.heap.size W w (CQ (W.heap.size + 1) (some ⟨fb, 0, none⟩) p0 p1 p2 gl q0 q1 q2 T0 T1 T2 (fz (.pointer (some ⟨fb, 0, none⟩)) (some F4) * Z5) m)) => (cq_cell s j hjt).1
                              have hg2 := fun (m : Nat) (w : World) (s : St W.heap.size W w (CQ (W.heap.size + 1) (some ⟨fb, 0, none⟩) p0 p1 p2 gl q0 q1 q2 T0 T1 T2 (fz (.pointer (some ⟨fb, 0, none⟩)) (some F4) * Z5) m)) => (cq_cell s j hjt).2
                              have hcc := fun (w : World) (s : St W.heap.size W w (CQ (W.heap.size + 1) (some ⟨fb, 0, none⟩) p0 p1 p2 gl q0 q1 q2 T0 T1 T2 (fz (.pointer (some ⟨fb, 0, none⟩)) (some F4) * Z5) j)) => cq_crash s hm0 hm1 hm2 hjt
                              rw [hpj] at hg1 hcc
                              rw [hnj] at hg2 hcc
                              have S20 := Lib.hid s20
                              have Hg1 := Lib.hid hg1
                              have Hg2 := Lib.hid hg2
                              have Hcc := Lib.hid hcc
                              clear hg1 hg2 hcc
                              clear s20 hpj hnj
                              go_wp2_with fail
                              refine wp_region_rx (fun i w => St W.heap.size W w (CQ (W.heap.size + 1) (some ⟨fb, 0, none⟩) p0 p1 p2 gl q0 q1 q2 T0 T1 T2 (fz (.pointer (some ⟨fb, 0, none⟩)) (some F4) * Z5) (if i = 0 then j else j + 1))) [6] mixed (by kernel_rfl) (by kernel_rfl) S20.out.drew ?_
                              refine RXl.exact (.int .i64 j) rfl rfl rfl rfl rfl (fun _ _ _ _ _ => rfl) ?_
                              refine RXl.exact (.pointer (some ⟨gl, j, none⟩)) rfl rfl rfl rfl rfl (fun j τ w' hj hJ => by simp [rho, upd, Spec.val, execOp, go_sem, hjI]) ?_
                              refine RXl.exact (pp pj) rfl rfl rfl rfl rfl (fun j τ w' hj hJ => by have c := Hg1.out _ _ hJ; simp [rho, upd, Spec.val, execOp, go_sem, c]) ?_
                              refine RXl.exact (.int .i64 j) rfl rfl rfl rfl rfl (fun _ _ _ _ _ => rfl) ?_
                              refine RXl.exact (.pointer (some ⟨W.heap.size + 1, j, none⟩)) rfl rfl rfl rfl rfl (fun j τ w' hj hJ => by simp [rho, upd, Spec.val, execOp, go_sem, hjI]) ?_
                              refine RXl.exact (.int .i64 nj) rfl rfl rfl rfl rfl (fun j τ w' hj hJ => by have c := Hg2.out _ _ hJ; simp [rho, upd, Spec.val, execOp, go_sem, c]) ?_
                              refine RXl.callj 0 (.tuple #[]) _ [pp pj, .int .i64 nj] [.tmp 191, .tmp 194] _ rfl rfl rfl rfl rfl rfl (fun _ => rfl) (fun w' hJ => Hcc.out w' hJ) ?_
                              refine RXl.nilx _ (Agr.upd _ _ (Agr.upd _ _ (Agr.upd _ _ (Agr.upd _ _ (Agr.upd _ _ (Agr.upd _ _ (Agr.upd _ _ (Agr.base _)))))))) fun w21 hJ => ?_
                              obtain ⟨_, hJ⟩ := hJ
                              simp only [Act.put, List.setIfInBounds_toArray, List.set_cons_succ, List.set_cons_zero]
                              have S21 := Lib.hid (show St W.heap.size W w21 (CQ (W.heap.size + 1) (some ⟨fb, 0, none⟩) p0 p1 p2 gl q0 q1 q2 T0 T1 T2 (fz (.pointer (some ⟨fb, 0, none⟩)) (some F4) * Z5) (j + 1)) from hJ)
                              clear hJ S20
                              go_wp2_with fail
                              go_roundw
                              case rel => exact ⟨j + 1, by omega, by go_num, S21.out⟩
                              case measure => simp [intOf]; omega
                            · obtain rfl : j = 3 := by omega
                              have hiv6 := Hiv4.out.crash q0 q1 q2
                              have hty6 := Hiv4.out.crash_ty q0 q1 q2
                              unfold CQ at s20
                              generalize crs T0 T1 T2 q0 q1 q2 3 = Ts6 at *
                              have S21 := Lib.hid s20
                              have Hiv6 := Lib.hid hiv6
                              have Hty6 := Lib.hid hty6
                              clear hiv6 hty6
                              clear s20
                              go_wp2_with fail
                              go_roundw
                              case rel => exact ⟨q + 1, Ts6, F4, Z5, by omega, by omega, by go_num, Hiv6.out, Hty6.out, S21.out.eq (by ac_rfl)⟩
                              case measure => simp [intOf]; omega
                      · obtain ⟨rfl, s18⟩ := hn _ _ h
                        have S18 := Lib.hid (s18.eq (Q := tps (some ⟨fb, 0, none⟩) [p0, p1, p2] Ts4 * (pts gl (.cells #[pp p0, pp p1, pp p2] 43 (0, 0)) * (pts (W.heap.size + 1) (.cells #[.int .i64 q0, .int .i64 q1, .int .i64 q2] 34 (0, 0)) * (fz (.pointer (some ⟨fb, 0, none⟩)) (some F4) * Z)))) (by ac_rfl))
                        generalize Z = Z5 at *
                        clear s18 h S16 Hop hn
                        as_aux_lemma =>
                          obtain ⟨T0, T1, T2, hTs, -⟩ := id Hiv4.out
                          subst hTs
                          have S19 := Lib.hid (show St W.heap.size W w17 (CQ (W.heap.size + 1) (some ⟨fb, 0, none⟩) p0 p1 p2 gl q0 q1 q2 T0 T1 T2 (fz (.pointer (some ⟨fb, 0, none⟩)) (some F4) * Z5) 0) from S18.out)
                          clear S18
                          go_wp2_with fail
                          go_loopw [24] (fun i wr => ∃ j : Nat, j ≤ 3 ∧ i = .int .i64 j ∧ St W.heap.size W wr (CQ (W.heap.size + 1) (some ⟨fb, 0, none⟩) p0 p1 p2 gl q0 q1 q2 T0 T1 T2 (fz (.pointer (some ⟨fb, 0, none⟩)) (some F4) * Z5) j)) (fun i _ => 3 - (intOf i).toNat)
                          case atStart => exact ⟨0, Nat.zero_le _, rfl, S19.out⟩
                          case round =>
                            obtain ⟨j, hj, rfl, s20⟩ := hrel
                            clear S19
                            by_cases hjt : j < 3
                            · have hjI : (j : Int) < 3 := by omega
                              obtain ⟨pj, hpj⟩ : ∃ z, [p0, p1, p2].getD j 0 = z := ⟨_, rfl⟩
                              obtain ⟨nj, hnj⟩ : ∃ z, [q0, q1, q2].getD j 0 = z := ⟨_, rfl⟩
                              have hg1 := fun (m : Nat) (w : World) (s : St W.heap.size W w (CQ (W.heap.size + 1) (some ⟨fb, 0, none⟩) p0 p1 p2 gl q0 q1 q2 T0 T1 T2 (fz (.pointer (some ⟨fb, 0, none⟩)) (some F4) * Z5) m)) => (cq_cell s j hjt).1
                              have hg2 := fun (m : Nat) (w : World) (s : St W.heap.size W w (CQ (W.heap.size + 1) (some ⟨fb, 0, none⟩) p0 p1 p2 gl q0 q1 q2 T0 T1 T2 (fz (.pointer (some ⟨fb, 0, none⟩)) (some F4) * Z5) m)) => (cq_cell s j hjt).2
                              have hcc := fun (w : World) (s : St W.heap.size W w (CQ (W.heap.size + 1) (some ⟨fb, 0, none⟩) p0 p1 p2 gl q0 q1 q2 T0 T1 T2 (fz (.pointer (some ⟨fb, 0, none⟩)) (some F4) * Z5) j)) => cq_crash s hm0 hm1 hm2 hjt
                              rw [hpj] at hg1 hcc
                              rw [hnj] at hg2 hcc
                              have S20 := Lib.hid s20
                              have Hg1 := Lib.hid hg1
                              have Hg2 := Lib.hid hg2
                              have Hcc := Lib.hid hcc
                              clear hg1 hg2 hcc
                              clear s20 hpj hnj
                              go_wp2_with fail
                              refine wp_region_rx (fun i w => St W.heap.size W w (CQ (W.heap.size + 1) (some ⟨fb, 0, none⟩) p0 p1 p2 gl q0 q1 q2 T0 T1 T2 (fz (.pointer (some ⟨fb, 0, none⟩)) (some F4) * Z5) (if i = 0 then j else j + 1))) [6] mixed (by kernel_rfl) (by kernel_rfl) S20.out.drew ?_
                              refine RXl.exact (.int .i64 j) rfl rfl rfl rfl rfl (fun _ _ _ _ _ => rfl) ?_
                              refine RXl.exact (.pointer (some ⟨gl, j, none⟩)) rfl rfl rfl rfl rfl (fun j τ w' hj hJ => by simp [rho, upd, Spec.val, execOp, go_sem, hjI]) ?_
                              refine RXl.exact (pp pj) rfl rfl rfl rfl rfl (fun j τ w' hj hJ => by have c := Hg1.out _ _ hJ; simp [rho, upd, Spec.val, execOp, go_sem, c]) ?_
                              refine RXl.exact (.int .i64 j) rfl rfl rfl rfl rfl (fun _ _ _ _ _ => rfl) ?_
                              refine RXl.exact (.pointer (some ⟨W.heap.size + 1, j, none⟩)) rfl rfl rfl rfl rfl (fun j τ w' hj hJ => by simp [rho, upd, Spec.val, execOp, go_sem, hjI]) ?_
                              refine RXl.exact (.int .i64 nj) rfl rfl rfl rfl rfl (fun j τ w' hj hJ => by have c := Hg2.out _ _ hJ; simp [rho, upd, Spec.val, execOp, go_sem, c]) ?_
                              refine RXl.callj 0 (.tuple #[]) _ [pp pj, .int .i64 nj] [.tmp 191, .tmp 194] _ rfl rfl rfl rfl rfl rfl (fun _ => rfl) (fun w' hJ => Hcc.out w' hJ) ?_
                              refine RXl.nilx _ (Agr.upd _ _ (Agr.upd _ _ (Agr.upd _ _ (Agr.upd _ _ (Agr.upd _ _ (Agr.upd _ _ (Agr.upd _ _ (Agr.base _)))))))) fun w21 hJ => ?_
                              obtain ⟨_, hJ⟩ := hJ
                              simp only [Act.put, List.setIfInBounds_toArray, List.set_cons_succ, List.set_cons_zero]
                              have S21 := Lib.hid (show St W.heap.size W w21 (CQ (W.heap.size + 1) (some ⟨fb, 0, none⟩) p0 p1 p2 gl q0 q1 q2 T0 T1 T2 (fz (.pointer (some ⟨fb, 0, none⟩)) (some F4) * Z5) (j + 1)) from hJ)
                              clear hJ S20
                              go_wp2_with fail
                              go_roundw
                              case rel => exact ⟨j + 1, by omega, by go_num, S21.out⟩
                              case measure => simp [intOf]; omega
                            · obtain rfl : j = 3 := by omega
                              have hiv6 := Hiv4.out.crash q0 q1 q2
                              have hty6 := Hiv4.out.crash_ty q0 q1 q2
                              unfold CQ at s20
                              generalize crs T0 T1 T2 q0 q1 q2 3 = Ts6 at *
                              have S21 := Lib.hid s20
                              have Hiv6 := Lib.hid hiv6
                              have Hty6 := Lib.hid hty6
                              clear hiv6 hty6
                              clear s20
                              go_wp2_with fail
                              go_roundw
                              case rel => exact ⟨q + 1, Ts6, F4, Z5, by omega, by omega, by go_num, Hiv6.out, Hty6.out, S21.out.eq (by ac_rfl)⟩
                              case measure => simp [intOf]; omega
                    · have h7 : ¬ (q : Int) < (fs.length : Int) ∨ (q : Int) < (fs.length : Int) ∧ ¬ (q : Int) < 6 := by omega
                      clear hqt
                      rcases h7 with h7 | ⟨h7, h8⟩
                      · as_aux_lemma =>
                          obtain ⟨Ts4, hop⟩ := open_last W.heap.size W p0 p1 p2 (some ⟨fb, 0, none⟩) (pts gl (.cells #[pp p0, pp p1, pp p2] 43 (0, 0)) * (pts (W.heap.size + 1) (.cells #[.int .i64 q0, .int .i64 q1, .int .i64 q2] 34 (0, 0)) * Z)) und_zero HokL.out Hor.out hiv3 hty3 hjL
                          have S15 := Lib.hid (s15.eq (Q := fz (.pointer (some ⟨fb, 0, none⟩)) (some F3) * (tps (some ⟨fb, 0, none⟩) [p0, p1, p2] Ts3 * (pts gl (.cells #[pp p0, pp p1, pp p2] 43 (0, 0)) * (pts (W.heap.size + 1) (.cells #[.int .i64 q0, .int .i64 q1, .int .i64 q2] 34 (0, 0)) * Z)))) (by ac_rfl))
                          have Hop := Lib.hid hop
                          clear hop
                          clear s15 hiv3 hty3
                          go_wp2_with fail
                          refine (set_calls _ _ 0 _ (by omega) S15.out).mono ?_
                          rintro e w16 ⟨rfl, s16⟩
                          have s17 := s16.eq (Q := pts gl (.cells #[pp p0, pp p1, pp p2] 43 (0, 0)) * (fz (.pointer (some ⟨fb, 0, none⟩)) (some (Fu.new 0)) * (tps (some ⟨fb, 0, none⟩) [p0, p1, p2] Ts3 * (pts (W.heap.size + 1) (.cells #[.int .i64 q0, .int .i64 q1, .int .i64 q2] 34 (0, 0)) * Z)))) (by ac_rfl)
                          have c0 := s17.cell 0
                          have c1' := s17.cell 1
                          have c2' := s17.cell 2
                          simp at c0 c1' c2'
                          have S16 := Lib.hid s16
                          clear s16 s17 S15
                          go_wp2_with fail
                          clear c0 c1' c2'
                          refine (open_calls (some (Fu.new 0)) Ts3 p0 p1 p2 (some ⟨fb, 0, none⟩) hT3 w16 (R := pts gl (.cells #[pp p0, pp p1, pp p2] 43 (0, 0)) * (pts (W.heap.size + 1) (.cells #[.int .i64 q0, .int .i64 q1, .int .i64 q2] 34 (0, 0)) * Z)) (S16.out.eq (by ac_rfl))).mono ?_
                          intro e w17 h
                          obtain ⟨X, b5, v5, vs5, rfl, hbr, s18⟩ := Hop.out _ _ h
                          have hwt2 : (((L ++ tl true r).length : Int) != ((rs.length : Int) + 1)) = false := by rw [Hwt.out]; simp
                          have Hmi := Lib.hid (show (if (10 : Int) < (rs.length : Int) then (10 : Int) else (rs.length : Int)) = (k : Int) by have := Hmin.out; split <;> omega)
                          have hLn : (L ++ tl true r).length = k + if true then 1 else 0 := by rw [lt_len, HlL.out]
                          have hget : ∀ (j : Nat) (hj : j < (L ++ tl true r).length), (j < k ∧ ∃ h : j < rs.length, (L ++ tl true r)[j] = rs[j]) ∨ (j = k ∧ (L ++ tl true r)[j] = r) := by
                            intro j hj
                            rw [hLn] at hj
                            by_cases h : j < k
                            · refine .inl ⟨h, by have := Hmin.out; omega, ?_⟩
                              rw [List.getElem_append_left (by rw [HlL.out]; exact h)]
                              have := HLd.out
                              subst this
                              rw [List.getElem_take]
                            · have hf : true = true := by first | rfl | (exfalso; simp at hj; omega)
                              have hjk : j = k := by rw [hf] at hj; simp at hj; omega
                              refine .inr ⟨hjk, ?_⟩
                              rw [List.getElem_append_right (by rw [HlL.out]; omega)]
                              simp [tl, hf]
                          generalize hLs : L ++ tl true r = Ls at *
                          obtain ⟨R8, hR8⟩ : ∃ ZZ, ZZ = trx b5 (some ⟨fb, 0, none⟩) [p0, p1, p2] Ls.length Ts4 (some (Fu.new 0)) * (pts gl (.cells #[pp p0, pp p1, pp p2] 43 (0, 0)) * (pts (W.heap.size + 1) (.cells #[.int .i64 q0, .int .i64 q1, .int .i64 q2] 34 (0, 0)) * Z)) := ⟨_, rfl⟩
                          rw [← hR8] at s18
                          obtain ⟨A5, c5, rfl, h51, h52, h53, h54⟩ := hbr.val
                          have S18 := Lib.hid s18
                          have Hln := Lib.hid hLn
                          have Hbr := Lib.hid hbr
                          have H53 := Lib.hid h53
                          have H54 := Lib.hid h54
                          have HLs := Lib.hid hLs
                          have Hget := Lib.hid hget
                          clear hbr h53 h54 hLs hget
                          clear s18 h S16 Hop hR8 hLn
                          go_wp2_with fail
                          go_loopw [28] (fun i wr => ∃ j : Nat, j ≤ Ls.length ∧ i = .int .i64 j ∧ St W.heap.size W wr (X * R8)) (fun i _ => Ls.length - (intOf i).toNat)
                          case atStart => exact ⟨0, Nat.zero_le _, rfl, S18.out⟩
                          case round =>
                            obtain ⟨j, hj, rfl, s19⟩ := hrel
                            clear S18
                            by_cases hjt : j < Ls.length
                            · have t3 : (j : Int) < (Ls.length : Int) := by omega
                              have hg := Hget.out j hjt
                              obtain ⟨u, hu, hbu⟩ := Hbr.out.at' wr R8 (s19.eq (sep_comm _ _)) j hjt
                              obtain ⟨aj, cj, rfl, -⟩ := id hbu
                              have hne : vs5 ≠ [] := by intro e; rw [e] at hu; simp at hu
                              obtain ⟨bg, og, rfl, -⟩ := (H54.out wr R8 (s19.eq (sep_comm _ _))).at hne
                              have hcg : ∀ w, St W.heap.size W w (X * R8) → w.cell? ⟨bg, og + j, none⟩ = some (.slice aj Ls[j].length cj) := fun w s => by
                                obtain ⟨_, _, e, hc⟩ := (H54.out w R8 (s.eq (sep_comm _ _))).at hne
                                cases e
                                exact hc j _ hu
                              have hbg : ∀ w, St W.heap.size W w (X * R8) → BS w (.slice aj Ls[j].length cj) Ls[j] := fun w s => by
                                obtain ⟨u', hu', hb'⟩ := Hbr.out.at' w R8 (s.eq (sep_comm _ _)) j hjt
                                rw [hu] at hu'
                                cases hu'
                                exact hb'
                              generalize Ls[j] = lj at *
                              have S19 := Lib.hid s19
                              have Hcg := Lib.hid hcg
                              have Hbg := Lib.hid hbg
                              clear hcg hbg
                              clear s19 hbu hu
                              rcases hg with ⟨hjk, hjr, hlj⟩ | ⟨hjk, hlj⟩
                              · obtain ⟨-, -, -, -, us, hru, hlv, hbu⟩ := Hrs.out.open'
                                obtain ⟨u, hu, hbu⟩ := hbu j hjr
                                rw [← hlj] at hbu
                                obtain ⟨ar, cr, rfl, -⟩ := id hbu
                                obtain ⟨b1, o1, rfl, hc⟩ := hru.at (by rintro rfl; rw [List.length_nil] at hlv; omega)
                                have hcr : ∀ w, St W.heap.size W w (X * R8) → w.cell? ⟨b1, o1 + j, none⟩ = some (.slice ar lj.length cr) := fun w s => Add.cell s.below (hc j _ hu)
                                have hbr2 : ∀ w, St W.heap.size W w (X * R8) → BS w (.slice ar lj.length cr) lj := fun w s => hbu.below s.below
                                have t4 : (j : Int) < (rs.length : Int) := by omega
                                have t5 : (j : Int) < 10 := by omega
                                have t6 : ¬ (k : Int) ≤ (j : Int) := by omega
                                have Hcr := Lib.hid hcr
                                have Hbr2 := Lib.hid hbr2
                                clear hcr hbr2
                                clear hru hlv hbu hu hc hlj
                                go_wp2_with fail
                                refine wp_region_rx (fun _ w' => St W.heap.size W w' (X * R8)) [] mixed (by kernel_rfl) (by kernel_rfl) S19.out.drew ?_
                                refine RXl.exact (.int .i64 j) rfl rfl rfl rfl rfl (fun _ _ _ _ _ => rfl) ?_
                                refine RXl.exact (.slice (some ⟨b1, o1, none⟩) rs.length ca) rfl rfl rfl rfl rfl (fun _ _ _ _ _ => rfl) ?_
                                refine RXl.exact (.int .i64 rs.length) rfl rfl rfl rfl rfl (fun j τ w' hj hJ => by simp [rho, upd, Spec.val, execOp, go_sem, resolve, invoke, builtin]) ?_
                                refine RXl.exact (.bool true) rfl rfl rfl rfl rfl (fun j τ w' hj hJ => by simp [rho, upd, Spec.val, execOp, go_sem, t4]) ?_
                                refine RXl.exact (.bool true) rfl rfl rfl rfl rfl (fun _ _ _ _ _ => rfl) ?_
                                refine RXl.exact (.int .i64 j) rfl rfl rfl rfl rfl (fun _ _ _ _ _ => rfl) ?_
                                refine RXl.exact (.bool true) rfl rfl rfl rfl rfl (fun j τ w' hj hJ => by simp [rho, upd, Spec.val, execOp, go_sem, t5]) ?_
                                refine RXl.exact (.bool true) rfl rfl rfl rfl rfl (fun _ _ _ _ _ => rfl) ?_
                                refine RXl.exact (.bool true) rfl rfl rfl rfl rfl (fun _ _ _ _ _ => rfl) ?_
                                refine RXl.exact (.slice (some ⟨bg, og, none⟩) Ls.length c5) rfl rfl rfl rfl rfl (fun _ _ _ _ _ => rfl) ?_
                                refine RXl.exact (.int .i64 j) rfl rfl rfl rfl rfl (fun _ _ _ _ _ => rfl) ?_
                                refine RXl.exact (.pointer (some ⟨bg, og + j, none⟩)) rfl rfl rfl rfl rfl (fun j τ w' hj hJ => by simp [rho, upd, Spec.val, execOp, go_sem, t3]) ?_
                                refine RXl.exact (.slice aj lj.length cj) rfl rfl rfl rfl rfl (fun j τ w' hj hJ => by have c := Hcg.out _ hJ; simp [rho, upd, Spec.val, execOp, go_sem, c]) ?_
                                refine RXl.exact (str lj) rfl rfl rfl rfl rfl (fun j τ w' hj hJ => exec_convert rfl (run_str Try.underlying23 Try.underlying5 Try.underlying9 (Hbg.out _ hJ))) ?_
                                refine RXl.exact (.slice (some ⟨b1, o1, none⟩) rs.length ca) rfl rfl rfl rfl rfl (fun _ _ _ _ _ => rfl) ?_
                                refine RXl.exact (.int .i64 j) rfl rfl rfl rfl rfl (fun _ _ _ _ _ => rfl) ?_
                                refine RXl.exact (.pointer (some ⟨b1, o1 + j, none⟩)) rfl rfl rfl rfl rfl (fun j τ w' hj hJ => by simp [rho, upd, Spec.val, execOp, go_sem, t4]) ?_
                                refine RXl.exact (.slice ar lj.length cr) rfl rfl rfl rfl rfl (fun j τ w' hj hJ => by have c := Hcr.out _ hJ; simp [rho, upd, Spec.val, execOp, go_sem, c]) ?_
                                refine RXl.exact (str lj) rfl rfl rfl rfl rfl (fun j τ w' hj hJ => exec_convert rfl (run_str Try.underlying23 Try.underlying5 Try.underlying9 (Hbr2.out _ hJ))) ?_
                                refine RXl.exact (.bool false) rfl rfl rfl rfl rfl (fun j τ w' hj hJ => by simp [rho, upd, Spec.val, execOp, go_sem]) ?_
                                refine RXl.exact (.bool false) rfl rfl rfl rfl rfl (fun _ _ _ _ _ => rfl) ?_
                                refine RXl.exact (.bool false) rfl rfl rfl rfl rfl (fun _ _ _ _ _ => rfl) ?_
                                refine RXl.exact (.int .i64 j) rfl rfl rfl rfl rfl (fun _ _ _ _ _ => rfl) ?_
                                refine RXl.exact (.slice (some ⟨b1, o1, none⟩) rs.length ca) rfl rfl rfl rfl rfl (fun _ _ _ _ _ => rfl) ?_
                                refine RXl.exact (.int .i64 rs.length) rfl rfl rfl rfl rfl (fun j τ w' hj hJ => by simp [rho, upd, Spec.val, execOp, go_sem, resolve, invoke, builtin]) ?_
                                refine RXl.exact (.int .i64 k) rfl rfl rfl rfl rfl (fun j τ w' hj hJ => by simp [rho, upd, Spec.val, execOp, go_sem, resolve, invoke, builtin, Hmi.out]) ?_
                                refine RXl.exact (.bool false) rfl rfl rfl rfl rfl (fun j τ w' hj hJ => by simp [rho, upd, Spec.val, execOp, go_sem]; exact hjk) ?_
                                refine RXl.exact (.bool false) rfl rfl rfl rfl rfl (fun _ _ _ _ _ => rfl) ?_
                                refine RXl.skip rfl rfl rfl rfl ?_
                                refine RXl.skip rfl rfl rfl rfl ?_
                                refine RXl.skip rfl rfl rfl rfl ?_
                                refine RXl.skip rfl rfl rfl rfl ?_
                                refine RXl.skip rfl rfl rfl rfl ?_
                                refine RXl.skip rfl rfl rfl rfl ?_
                                refine RXl.skip rfl rfl rfl rfl ?_
                                refine RXl.skip rfl rfl rfl rfl ?_
                                refine RXl.exact (.bool false) rfl rfl rfl rfl rfl (fun _ _ _ _ _ => rfl) ?_
                                refine RXl.exact (.bool false) rfl rfl rfl rfl rfl (fun _ _ _ _ _ => rfl) ?_
                                refine RXl.nilx _ (Agr.upd _ _ (Agr.upd _ _ (Agr.upd _ _ (Agr.upd _ _ (Agr.upd _ _ (Agr.upd _ _ (Agr.upd _ _ (Agr.upd _ _ (Agr.upd _ _ (Agr.upd _ _ (Agr.upd _ _ (Agr.upd _ _ (Agr.upd _ _ (Agr.upd _ _ (Agr.upd _ _ (Agr.upd _ _ (Agr.upd _ _ (Agr.upd _ _ (Agr.upd _ _ (Agr.upd _ _ (Agr.upd _ _ (Agr.upd _ _ (Agr.upd _ _ (Agr.upd _ _ (Agr.upd _ _ (Agr.upd _ _ (Agr.upd _ _ (Agr.upd _ _ (Agr.upd _ _ (Agr.upd _ _ (Agr.upd _ _ (Agr.upd _ _ (Agr.upd _ _ (Agr.upd _ _ (Agr.upd _ _ (Agr.upd _ _ (Agr.upd _ _ (Agr.upd _ _ (Agr.base _))))))))))))))))))))))))))))))))))))))) fun w22 hJ => ?_
                                obtain ⟨_, hJ⟩ := hJ
                                simp only [Act.put, List.setIfInBounds_toArray, List.set_cons_succ, List.set_cons_zero]
                                have S20 := Lib.hid (show St W.heap.size W w22 (X * R8) from hJ)
                                clear hJ S19
                                go_wp2_with fail
                                go_roundw
                                case rel => exact ⟨j + 1, by omega, by go_num, S20.out⟩
                                case measure => simp [intOf]; omega
                              · have t7 : (k : Int) ≤ (j : Int) := by omega
                                have hbr2 : ∀ w, St W.heap.size W w (X * R8) → BS w (.slice a1 r.length c1) r := fun w s => Hr.out.st rfl s
                                have Hbr2 := Lib.hid hbr2
                                have Hlj := Lib.hid hlj
                                clear hbr2 hlj
                                go_wp2_with fail
                                refine wp_region_rx (fun _ w' => St W.heap.size W w' (X * R8)) [] mixed (by kernel_rfl) (by kernel_rfl) S19.out.drew ?_
                                refine RXl.exact (.int .i64 j) rfl rfl rfl rfl rfl (fun _ _ _ _ _ => rfl) ?_
                                refine RXl.exact (.slice a rs.length ca) rfl rfl rfl rfl rfl (fun _ _ _ _ _ => rfl) ?_
                                refine RXl.exact (.int .i64 rs.length) rfl rfl rfl rfl rfl (fun j τ w' hj hJ => by simp [rho, upd, Spec.val, execOp, go_sem, resolve, invoke, builtin]) ?_
                                refine RXl.exact (.bool false) rfl rfl rfl rfl rfl (fun j τ w' hj hJ => by simp [rho, upd, Spec.val, execOp, go_sem] <;> omega) ?_
                                refine RXl.exact (.bool false) rfl rfl rfl rfl rfl (fun _ _ _ _ _ => rfl) ?_
                                refine RXl.skip rfl rfl rfl rfl ?_
                                refine RXl.skip rfl rfl rfl rfl ?_
                                refine RXl.exact (.bool false) rfl rfl rfl rfl rfl (fun _ _ _ _ _ => rfl) ?_
                                refine RXl.exact (.bool false) rfl rfl rfl rfl rfl (fun _ _ _ _ _ => rfl) ?_
                                refine RXl.skip rfl rfl rfl rfl ?_
                                refine RXl.skip rfl rfl rfl rfl ?_
                                refine RXl.skip rfl rfl rfl rfl ?_
                                refine RXl.skip rfl rfl rfl rfl ?_
                                refine RXl.skip rfl rfl rfl rfl ?_
                                refine RXl.skip rfl rfl rfl rfl ?_
                                refine RXl.skip rfl rfl rfl rfl ?_
                                refine RXl.skip rfl rfl rfl rfl ?_
                                refine RXl.skip rfl rfl rfl rfl ?_
                                refine RXl.skip rfl rfl rfl rfl ?_
                                refine RXl.skip rfl rfl rfl rfl ?_
                                refine RXl.exact (.bool false) rfl rfl rfl rfl rfl (fun _ _ _ _ _ => rfl) ?_
                                refine RXl.exact (.bool false) rfl rfl rfl rfl rfl (fun _ _ _ _ _ => rfl) ?_
                                refine RXl.exact (.int .i64 j) rfl rfl rfl rfl rfl (fun _ _ _ _ _ => rfl) ?_
                                refine RXl.exact (.slice a rs.length ca) rfl rfl rfl rfl rfl (fun _ _ _ _ _ => rfl) ?_
                                refine RXl.exact (.int .i64 rs.length) rfl rfl rfl rfl rfl (fun j τ w' hj hJ => by simp [rho, upd, Spec.val, execOp, go_sem, resolve, invoke, builtin]) ?_
                                refine RXl.exact (.int .i64 k) rfl rfl rfl rfl rfl (fun j τ w' hj hJ => by simp [rho, upd, Spec.val, execOp, go_sem, resolve, invoke, builtin, Hmi.out]) ?_
                                refine RXl.exact (.bool true) rfl rfl rfl rfl rfl (fun j τ w' hj hJ => by simp [rho, upd, Spec.val, execOp, go_sem] <;> omega) ?_
                                refine RXl.exact (.bool true) rfl rfl rfl rfl rfl (fun _ _ _ _ _ => rfl) ?_
                                refine RXl.exact (.slice (some ⟨bg, og, none⟩) Ls.length c5) rfl rfl rfl rfl rfl (fun _ _ _ _ _ => rfl) ?_
                                refine RXl.exact (.int .i64 j) rfl rfl rfl rfl rfl (fun _ _ _ _ _ => rfl) ?_
                                refine RXl.exact (.pointer (some ⟨bg, og + j, none⟩)) rfl rfl rfl rfl rfl (fun j τ w' hj hJ => by simp [rho, upd, Spec.val, execOp, go_sem, t3]) ?_
                                refine RXl.exact (.slice aj lj.length cj) rfl rfl rfl rfl rfl (fun j τ w' hj hJ => by have c := Hcg.out _ hJ; simp [rho, upd, Spec.val, execOp, go_sem, c]) ?_
                                refine RXl.exact (str lj) rfl rfl rfl rfl rfl (fun j τ w' hj hJ => exec_convert rfl (run_str Try.underlying23 Try.underlying5 Try.underlying9 (Hbg.out _ hJ))) ?_
                                refine RXl.exact (.slice a1 r.length c1) rfl rfl rfl rfl rfl (fun _ _ _ _ _ => rfl) ?_
                                refine RXl.exact (str lj) rfl rfl rfl rfl rfl (fun j τ w' hj hJ => by rw [Hlj.out]; exact exec_convert rfl (run_str Try.underlying23 Try.underlying5 Try.underlying9 (Hbr2.out _ hJ))) ?_
                                refine RXl.exact (.bool false) rfl rfl rfl rfl rfl (fun j τ w' hj hJ => by simp [rho, upd, Spec.val, execOp, go_sem]) ?_
                                refine RXl.exact (.bool false) rfl rfl rfl rfl rfl (fun _ _ _ _ _ => rfl) ?_
                                refine RXl.exact (.bool false) rfl rfl rfl rfl rfl (fun _ _ _ _ _ => rfl) ?_
                                refine RXl.nilx _ (Agr.upd _ _ (Agr.upd _ _ (Agr.upd _ _ (Agr.upd _ _ (Agr.upd _ _ (Agr.upd _ _ (Agr.upd _ _ (Agr.upd _ _ (Agr.upd _ _ (Agr.upd _ _ (Agr.upd _ _ (Agr.upd _ _ (Agr.upd _ _ (Agr.upd _ _ (Agr.upd _ _ (Agr.upd _ _ (Agr.upd _ _ (Agr.upd _ _ (Agr.upd _ _ (Agr.upd _ _ (Agr.upd _ _ (Agr.upd _ _ (Agr.upd _ _ (Agr.upd _ _ (Agr.upd _ _ (Agr.upd _ _ (Agr.upd _ _ (Agr.upd _ _ (Agr.upd _ _ (Agr.upd _ _ (Agr.upd _ _ (Agr.upd _ _ (Agr.upd _ _ (Agr.upd _ _ (Agr.upd _ _ (Agr.upd _ _ (Agr.upd _ _ (Agr.upd _ _ (Agr.base _))))))))))))))))))))))))))))))))))))))) fun w22 hJ => ?_
                                obtain ⟨_, hJ⟩ := hJ
                                simp only [Act.put, List.setIfInBounds_toArray, List.set_cons_succ, List.set_cons_zero]
                                have S20 := Lib.hid (show St W.heap.size W w22 (X * R8) from hJ)
                                clear hJ S19
                                go_wp2_with fail
                                go_roundw
                                case rel => exact ⟨j + 1, by omega, by go_num, S20.out⟩
                                case measure => simp [intOf]; omega
                            · obtain rfl : j = Ls.length := by omega
                              have S19 := Lib.hid s19
                              clear s19
                              go_wp2_with fail
                              refine (awake_calls _).mono ?_
                              rintro e w20 ⟨rfl, h2⟩
                              have HA := Lib.hid (S19.out.keep h2)
                              clear h2 S19
                              go_wp2_with fail
                              go_ret
                              exact ⟨rfl, HA.out.below⟩
                      · as_aux_lemma =>
                          obtain ⟨Ts4, hop⟩ := open_last W.heap.size W p0 p1 p2 (some ⟨fb, 0, none⟩) (pts gl (.cells #[pp p0, pp p1, pp p2] 43 (0, 0)) * (pts (W.heap.size + 1) (.cells #[.int .i64 q0, .int .i64 q1, .int .i64 q2] 34 (0, 0)) * Z)) und_zero HokL.out Hor.out hiv3 hty3 hjL
                          have S15 := Lib.hid (s15.eq (Q := fz (.pointer (some ⟨fb, 0, none⟩)) (some F3) * (tps (some ⟨fb, 0, none⟩) [p0, p1, p2] Ts3 * (pts gl (.cells #[pp p0, pp p1, pp p2] 43 (0, 0)) * (pts (W.heap.size + 1) (.cells #[.int .i64 q0, .int .i64 q1, .int .i64 q2] 34 (0, 0)) * Z)))) (by ac_rfl))
                          have Hop := Lib.hid hop
                          clear hop
                          clear s15 hiv3 hty3
                          go_wp2_with fail
                          refine (set_calls _ _ 0 _ (by omega) S15.out).mono ?_
                          rintro e w16 ⟨rfl, s16⟩
                          have s17 := s16.eq (Q := pts gl (.cells #[pp p0, pp p1, pp p2] 43 (0, 0)) * (fz (.pointer (some ⟨fb, 0, none⟩)) (some (Fu.new 0)) * (tps (some ⟨fb, 0, none⟩) [p0, p1, p2] Ts3 * (pts (W.heap.size + 1) (.cells #[.int .i64 q0, .int .i64 q1, .int .i64 q2] 34 (0, 0)) * Z)))) (by ac_rfl)
                          have c0 := s17.cell 0
                          have c1' := s17.cell 1
                          have c2' := s17.cell 2
                          simp at c0 c1' c2'
                          have S16 := Lib.hid s16
                          clear s16 s17 S15
                          go_wp2_with fail
                          clear c0 c1' c2'
                          refine (open_calls (some (Fu.new 0)) Ts3 p0 p1 p2 (some ⟨fb, 0, none⟩) hT3 w16 (R := pts gl (.cells #[pp p0, pp p1, pp p2] 43 (0, 0)) * (pts (W.heap.size + 1) (.cells #[.int .i64 q0, .int .i64 q1, .int .i64 q2] 34 (0, 0)) * Z)) (S16.out.eq (by ac_rfl))).mono ?_
                          intro e w17 h
                          obtain ⟨X, b5, v5, vs5, rfl, hbr, s18⟩ := Hop.out _ _ h
                          have hwt2 : (((L ++ tl true r).length : Int) != ((rs.length : Int) + 1)) = false := by rw [Hwt.out]; simp
                          have Hmi := Lib.hid (show (if (10 : Int) < (rs.length : Int) then (10 : Int) else (rs.length : Int)) = (k : Int) by have := Hmin.out; split <;> omega)
                          have hLn : (L ++ tl true r).length = k + if true then 1 else 0 := by rw [lt_len, HlL.out]
                          have hget : ∀ (j : Nat) (hj : j < (L ++ tl true r).length), (j < k ∧ ∃ h : j < rs.length, (L ++ tl true r)[j] = rs[j]) ∨ (j = k ∧ (L ++ tl true r)[j] = r) := by
                            intro j hj
                            rw [hLn] at hj
                            by_cases h : j < k
                            · refine .inl ⟨h, by have := Hmin.out; omega, ?_⟩
                              rw [List.getElem_append_left (by rw [HlL.out]; exact h)]
                              have := HLd.out
                              subst this
                              rw [List.getElem_take]
                            · have hf : true = true := by first | rfl | (exfalso; simp at hj; omega)
                              have hjk : j = k := by rw [hf] at hj; simp at hj; omega
                              refine .inr ⟨hjk, ?_⟩
                              rw [List.getElem_append_right (by rw [HlL.out]; omega)]
                              simp [tl, hf]
                          generalize hLs : L ++ tl true r = Ls at *
                          obtain ⟨R8, hR8⟩ : ∃ ZZ, ZZ = trx b5 (some ⟨fb, 0, none⟩) [p0, p1, p2] Ls.length Ts4 (some (Fu.new 0)) * (pts gl (.cells #[pp p0, pp p1, pp p2] 43 (0, 0)) * (pts (W.heap.size + 1) (.cells #[.int .i64 q0, .int .i64 q1, .int .i64 q2] 34 (0, 0)) * Z)) := ⟨_, rfl⟩
                          rw [← hR8] at s18
                          obtain ⟨A5, c5, rfl, h51, h52, h53, h54⟩ := hbr.val
                          have S18 := Lib.hid s18
                          have Hln := Lib.hid hLn
                          have Hbr := Lib.hid hbr
                          have H53 := Lib.hid h53
                          have H54 := Lib.hid h54
                          have HLs := Lib.hid hLs
                          have Hget := Lib.hid hget
                          clear hbr h53 h54 hLs hget
                          clear s18 h S16 Hop hR8 hLn
                          go_wp2_with fail
                          go_loopw [28] (fun i wr => ∃ j : Nat, j ≤ Ls.length ∧ i = .int .i64 j ∧ St W.heap.size W wr (X * R8)) (fun i _ => Ls.length - (intOf i).toNat)
                          case atStart => exact ⟨0, Nat.zero_le _, rfl, S18.out⟩
                          case round =>
                            obtain ⟨j, hj, rfl, s19⟩ := hrel
                            clear S18
                            by_cases hjt : j < Ls.length
                            · have t3 : (j : Int) < (Ls.length : Int) := by omega
                              have hg := Hget.out j hjt
                              obtain ⟨u, hu, hbu⟩ := Hbr.out.at' wr R8 (s19.eq (sep_comm _ _)) j hjt
                              obtain ⟨aj, cj, rfl, -⟩ := id hbu
                              have hne : vs5 ≠ [] := by intro e; rw [e] at hu; simp at hu
                              obtain ⟨bg, og, rfl, -⟩ := (H54.out wr R8 (s19.eq (sep_comm _ _))).at hne
                              have hcg : ∀ w, St W.heap.size W w (X * R8) → w.cell? ⟨bg, og + j, none⟩ = some (.slice aj Ls[j].length cj) := fun w s => by
                                obtain ⟨_, _, e, hc⟩ := (H54.out w R8 (s.eq (sep_comm _ _))).at hne
                                cases e
                                exact hc j _ hu
                              have hbg : ∀ w, St W.heap.size W w (X * R8) → BS w (.slice aj Ls[j].length cj) Ls[j] := fun w s => by
                                obtain ⟨u', hu', hb'⟩ := Hbr.out.at' w R8 (s.eq (sep_comm _ _)) j hjt
                                rw [hu] at hu'
                                cases hu'
                                exact hb'
                              generalize Ls[j] = lj at *
                              have S19 := Lib.hid s19
                              have Hcg := Lib.hid hcg
                              have Hbg := Lib.hid hbg
                              clear hcg hbg
                              clear s19 hbu hu
                              rcases hg with ⟨hjk, hjr, hlj⟩ | ⟨hjk, hlj⟩
                              · obtain ⟨-, -, -, -, us, hru, hlv, hbu⟩ := Hrs.out.open'
                                obtain ⟨u, hu, hbu⟩ := hbu j hjr
                                rw [← hlj] at hbu
                                obtain ⟨ar, cr, rfl, -⟩ := id hbu
                                obtain ⟨b1, o1, rfl, hc⟩ := hru.at (by rintro rfl; rw [List.length_nil] at hlv; omega)
                                have hcr : ∀ w, St W.heap.size W w (X * R8) → w.cell? ⟨b1, o1 + j, none⟩ = some (.slice ar lj.length cr) := fun w s => Add.cell s.below (hc j _ hu)
                                have hbr2 : ∀ w, St W.heap.size W w (X * R8) → BS w (.slice ar lj.length cr) lj := fun w s => hbu.below s.below
                                have t4 : (j : Int) < (rs.length : Int) := by omega
                                have t5 : (j : Int) < 10 := by omega
                                have t6 : ¬ (k : Int) ≤ (j : Int) := by omega
                                have Hcr := Lib.hid hcr
                                have Hbr2 := Lib.hid hbr2
                                clear hcr hbr2
                                clear hru hlv hbu hu hc hlj
                                go_wp2_with fail
                                refine wp_region_rx (fun _ w' => St W.heap.size W w' (X * R8)) [] mixed (by kernel_rfl) (by kernel_rfl) S19.out.drew ?_
                                refine RXl.exact (.int .i64 j) rfl rfl rfl rfl rfl (fun _ _ _ _ _ => rfl) ?_
                                refine RXl.exact (.slice (some ⟨b1, o1, none⟩) rs.length ca) rfl rfl rfl rfl rfl (fun _ _ _ _ _ => rfl) ?_
                                refine RXl.exact (.int .i64 rs.length) rfl rfl rfl rfl rfl (fun j τ w' hj hJ => by simp [rho, upd, Spec.val, execOp, go_sem, resolve, invoke, builtin]) ?_
                                refine RXl.exact (.bool true) rfl rfl rfl rfl rfl (fun j τ w' hj hJ => by simp [rho, upd, Spec.val, execOp, go_sem, t4]) ?_
                                refine RXl.exact (.bool true) rfl rfl rfl rfl rfl (fun _ _ _ _ _ => rfl) ?_
                                refine RXl.exact (.int .i64 j) rfl rfl rfl rfl rfl (fun _ _ _ _ _ => rfl) ?_
                                refine RXl.exact (.bool true) rfl rfl rfl rfl rfl (fun j τ w' hj hJ => by simp [rho, upd, Spec.val, execOp, go_sem, t5]) ?_
                                refine RXl.exact (.bool true) rfl rfl rfl rfl rfl (fun _ _ _ _ _ => rfl) ?_
                                refine RXl.exact (.bool true) rfl rfl rfl rfl rfl (fun _ _ _ _ _ => rfl) ?_
                                refine RXl.exact (.slice (some ⟨bg, og, none⟩) Ls.length c5) rfl rfl rfl rfl rfl (fun _ _ _ _ _ => rfl) ?_
                                refine RXl.exact (.int .i64 j) rfl rfl rfl rfl rfl (fun _ _ _ _ _ => rfl) ?_
                                refine RXl.exact (.pointer (some ⟨bg, og + j, none⟩)) rfl rfl rfl rfl rfl (fun j τ w' hj hJ => by simp [rho, upd, Spec.val, execOp, go_sem, t3]) ?_
                                refine RXl.exact (.slice aj lj.length cj) rfl rfl rfl rfl rfl (fun j τ w' hj hJ => by have c := Hcg.out _ hJ; simp [rho, upd, Spec.val, execOp, go_sem, c]) ?_
                                refine RXl.exact (str lj) rfl rfl rfl rfl rfl (fun j τ w' hj hJ => exec_convert rfl (run_str Try.underlying23 Try.underlying5 Try.underlying9 (Hbg.out _ hJ))) ?_
                                refine RXl.exact (.slice (some ⟨b1, o1, none⟩) rs.length ca) rfl rfl rfl rfl rfl (fun _ _ _ _ _ => rfl) ?_
                                refine RXl.exact (.int .i64 j) rfl rfl rfl rfl rfl (fun _ _ _ _ _ => rfl) ?_
                                refine RXl.exact (.pointer (some ⟨b1, o1 + j, none⟩)) rfl rfl rfl rfl rfl (fun j τ w' hj hJ => by simp [rho, upd, Spec.val, execOp, go_sem, t4]) ?_
                                refine RXl.exact (.slice ar lj.length cr) rfl rfl rfl rfl rfl (fun j τ w' hj hJ => by have c := Hcr.out _ hJ; simp [rho, upd, Spec.val, execOp, go_sem, c]) ?_
                                refine RXl.exact (str lj) rfl rfl rfl rfl rfl (fun j τ w' hj hJ => exec_convert rfl (run_str Try.underlying23 Try.underlying5 Try.underlying9 (Hbr2.out _ hJ))) ?_
                                refine RXl.exact (.bool false) rfl rfl rfl rfl rfl (fun j τ w' hj hJ => by simp [rho, upd, Spec.val, execOp, go_sem]) ?_
                                refine RXl.exact (.bool false) rfl rfl rfl rfl rfl (fun _ _ _ _ _ => rfl) ?_
                                refine RXl.exact (.bool false) rfl rfl rfl rfl rfl (fun _ _ _ _ _ => rfl) ?_
                                refine RXl.exact (.int .i64 j) rfl rfl rfl rfl rfl (fun _ _ _ _ _ => rfl) ?_
                                refine RXl.exact (.slice (some ⟨b1, o1, none⟩) rs.length ca) rfl rfl rfl rfl rfl (fun _ _ _ _ _ => rfl) ?_
                                refine RXl.exact (.int .i64 rs.length) rfl rfl rfl rfl rfl (fun j τ w' hj hJ => by simp [rho, upd, Spec.val, execOp, go_sem, resolve, invoke, builtin]) ?_
                                refine RXl.exact (.int .i64 k) rfl rfl rfl rfl rfl (fun j τ w' hj hJ => by simp [rho, upd, Spec.val, execOp, go_sem, resolve, invoke, builtin, Hmi.out]) ?_
                                refine RXl.exact (.bool false) rfl rfl rfl rfl rfl (fun j τ w' hj hJ => by simp [rho, upd, Spec.val, execOp, go_sem]; exact hjk) ?_
                                refine RXl.exact (.bool false) rfl rfl rfl rfl rfl (fun _ _ _ _ _ => rfl) ?_
                                refine RXl.skip rfl rfl rfl rfl ?_
                                refine RXl.skip rfl rfl rfl rfl ?_
                                refine RXl.skip rfl rfl rfl rfl ?_
                                refine RXl.skip rfl rfl rfl rfl ?_
                                refine RXl.skip rfl rfl rfl rfl ?_
                                refine RXl.skip rfl rfl rfl rfl ?_
                                refine RXl.skip rfl rfl rfl rfl ?_
                                refine RXl.skip rfl rfl rfl rfl ?_
                                refine RXl.exact (.bool false) rfl rfl rfl rfl rfl (fun _ _ _ _ _ => rfl) ?_
                                refine RXl.exact (.bool false) rfl rfl rfl rfl rfl (fun _ _ _ _ _ => rfl) ?_
                                refine RXl.nilx _ (Agr.upd _ _ (Agr.upd _ _ (Agr.upd _ _ (Agr.upd _ _ (Agr.upd _ _ (Agr.upd _ _ (Agr.upd _ _ (Agr.upd _ _ (Agr.upd _ _ (Agr.upd _ _ (Agr.upd _ _ (Agr.upd _ _ (Agr.upd _ _ (Agr.upd _ _ (Agr.upd _ _ (Agr.upd _ _ (Agr.upd _ _ (Agr.upd _ _ (Agr.upd _ _ (Agr.upd _ _ (Agr.upd _ _ (Agr.upd _ _ (Agr.upd _ _ (Agr.upd _ _ (Agr.upd _ _ (Agr.upd _ _ (Agr.upd _ _ (Agr.upd _ _ (Agr.upd _ _ (Agr.upd _ _ (Agr.upd _ _ (Agr.upd _ _ (Agr.upd _ _ (Agr.upd _ _ (Agr.upd _ _ (Agr.upd _ _ (Agr.upd _ _ (Agr.upd _ _ (Agr.base _))))))))))))))))))))))))))))))))))))))) fun w22 hJ => ?_
                                obtain ⟨_, hJ⟩ := hJ
                                simp only [Act.put, List.setIfInBounds_toArray, List.set_cons_succ, List.set_cons_zero]
                                have S20 := Lib.hid (show St W.heap.size W w22 (X * R8) from hJ)
                                clear hJ S19
                                go_wp2_with fail
                                go_roundw
                                case rel => exact ⟨j + 1, by omega, by go_num, S20.out⟩
                                case measure => simp [intOf]; omega
                              · have t7 : (k : Int) ≤ (j : Int) := by omega
                                have hbr2 : ∀ w, St W.heap.size W w (X * R8) → BS w (.slice a1 r.length c1) r := fun w s => Hr.out.st rfl s
                                have Hbr2 := Lib.hid hbr2
                                have Hlj := Lib.hid hlj
                                clear hbr2 hlj
                                go_wp2_with fail
                                refine wp_region_rx (fun _ w' => St W.heap.size W w' (X * R8)) [] mixed (by kernel_rfl) (by kernel_rfl) S19.out.drew ?_
                                refine RXl.exact (.int .i64 j) rfl rfl rfl rfl rfl (fun _ _ _ _ _ => rfl) ?_
                                refine RXl.exact (.slice a rs.length ca) rfl rfl rfl rfl rfl (fun _ _ _ _ _ => rfl) ?_
                                refine RXl.exact (.int .i64 rs.length) rfl rfl rfl rfl rfl (fun j τ w' hj hJ => by simp [rho, upd, Spec.val, execOp, go_sem, resolve, invoke, builtin]) ?_
                                refine RXl.exact (.bool false) rfl rfl rfl rfl rfl (fun j τ w' hj hJ => by simp [rho, upd, Spec.val, execOp, go_sem] <;> omega) ?_
                                refine RXl.exact (.bool false) rfl rfl rfl rfl rfl (fun _ _ _ _ _ => rfl) ?_
                                refine RXl.skip rfl rfl rfl rfl ?_
                                refine RXl.skip rfl rfl rfl rfl ?_
                                refine RXl.exact (.bool false) rfl rfl rfl rfl rfl (fun _ _ _ _ _ => rfl) ?_
                                refine RXl.exact (.bool false) rfl rfl rfl rfl rfl (fun _ _ _ _ _ => rfl) ?_
                                refine RXl.skip rfl rfl rfl rfl ?_
                                refine RXl.skip rfl rfl rfl rfl ?_
                                refine RXl.skip rfl rfl rfl rfl ?_
                                refine RXl.skip rfl rfl rfl rfl ?_
                                refine RXl.skip rfl rfl rfl rfl ?_
                                refine RXl.skip rfl rfl rfl rfl ?_
                                refine RXl.skip rfl rfl rfl rfl ?_
                                refine RXl.skip rfl rfl rfl rfl ?_
                                refine RXl.skip rfl rfl rfl rfl ?_
                                refine RXl.skip rfl rfl rfl rfl ?_
                                refine RXl.skip rfl rfl rfl rfl ?_
                                refine RXl.exact (.bool false) rfl rfl rfl rfl rfl (fun _ _ _ _ _ => rfl) ?_
                                refine RXl.exact (.bool false) rfl rfl rfl rfl rfl (fun _ _ _ _ _ => rfl) ?_
                                refine RXl.exact (.int .i64 j) rfl rfl rfl rfl rfl (fun _ _ _ _ _ => rfl) ?_
                                refine RXl.exact (.slice a rs.length ca) rfl rfl rfl rfl rfl (fun _ _ _ _ _ => rfl) ?_
                                refine RXl.exact (.int .i64 rs.length) rfl rfl rfl rfl rfl (fun j τ w' hj hJ => by simp [rho, upd, Spec.val, execOp, go_sem, resolve, invoke, builtin]) ?_
                                refine RXl.exact (.int .i64 k) rfl rfl rfl rfl rfl (fun j τ w' hj hJ => by simp [rho, upd, Spec.val, execOp, go_sem, resolve, invoke, builtin, Hmi.out]) ?_
                                refine RXl.exact (.bool true) rfl rfl rfl rfl rfl (fun j τ w' hj hJ => by simp [rho, upd, Spec.val, execOp, go_sem] <;> omega) ?_
                                refine RXl.exact (.bool true) rfl rfl rfl rfl rfl (fun _ _ _ _ _ => rfl) ?_
                                refine RXl.exact (.slice (some ⟨bg, og, none⟩) Ls.length c5) rfl rfl rfl rfl rfl (fun _ _ _ _ _ => rfl) ?_
                                refine RXl.exact (.int .i64 j) rfl rfl rfl rfl rfl (fun _ _ _ _ _ => rfl) ?_
                                refine RXl.exact (.pointer (some ⟨bg, og + j, none⟩)) rfl rfl rfl rfl rfl (fun j τ w' hj hJ => by simp [rho, upd, Spec.val, execOp, go_sem, t3]) ?_
                                refine RXl.exact (.slice aj lj.length cj) rfl rfl rfl rfl rfl (fun j τ w' hj hJ => by have c := Hcg.out _ hJ; simp [rho, upd, Spec.val, execOp, go_sem, c]) ?_
                                refine RXl.exact (str lj) rfl rfl rfl rfl rfl (fun j τ w' hj hJ => exec_convert rfl (run_str Try.underlying23 Try.underlying5 Try.underlying9 (Hbg.out _ hJ))) ?_
                                refine RXl.exact (.slice a1 r.length c1) rfl rfl rfl rfl rfl (fun _ _ _ _ _ => rfl) ?_
                                refine RXl.exact (str lj) rfl rfl rfl rfl rfl (fun j τ w' hj hJ => by rw [Hlj.out]; exact exec_convert rfl (run_str Try.underlying23 Try.underlying5 Try.underlying9 (Hbr2.out _ hJ))) ?_
                                refine RXl.exact (.bool false) rfl rfl rfl rfl rfl (fun j τ w' hj hJ => by simp [rho, upd, Spec.val, execOp, go_sem]) ?_
                                refine RXl.exact (.bool false) rfl rfl rfl rfl rfl (fun _ _ _ _ _ => rfl) ?_
                                refine RXl.exact (.bool false) rfl rfl rfl rfl rfl (fun _ _ _ _ _ => rfl) ?_
                                refine RXl.nilx _ (Agr.upd _ _ (Agr.upd _ _ (Agr.upd _ _ (Agr.upd _ _ (Agr.upd _ _ (Agr.upd _ _ (Agr.upd _ _ (Agr.upd _ _ (Agr.upd _ _ (Agr.upd _ _ (Agr.upd _ _ (Agr.upd _ _ (Agr.upd _ _ (Agr.upd _ _ (Agr.upd _ _ (Agr.upd _ _ (Agr.upd _ _ (Agr.upd _ _ (Agr.upd _ _ (Agr.upd _ _ (Agr.upd _ _ (Agr.upd _ _ (Agr.upd _ _ (Agr.upd _ _ (Agr.upd _ _ (Agr.upd _ _ (Agr.upd _ _ (Agr.upd _ _ (Agr.upd _ _ (Agr.upd _ _ (Agr.upd _ _ (Agr.upd _ _ (Agr.upd _ _ (Agr.upd _ _ (Agr.upd _ _ (Agr.upd _ _ (Agr.upd _ _ (Agr.upd _ _ (Agr.base _))))))))))))))))))))))))))))))))))))))) fun w22 hJ => ?_
                                obtain ⟨_, hJ⟩ := hJ
                                simp only [Act.put, List.setIfInBounds_toArray, List.set_cons_succ, List.set_cons_zero]
                                have S20 := Lib.hid (show St W.heap.size W w22 (X * R8) from hJ)
                                clear hJ S19
                                go_wp2_with fail
                                go_roundw
                                case rel => exact ⟨j + 1, by omega, by go_num, S20.out⟩
                                case measure => simp [intOf]; omega
                            · obtain rfl : j = Ls.length := by omega
                              have S19 := Lib.hid s19
                              clear s19
                              go_wp2_with fail
                              refine (awake_calls _).mono ?_
                              rintro e w20 ⟨rfl, h2⟩
                              have HA := Lib.hid (S19.out.keep h2)
                              clear h2 S19
                              go_wp2_with fail
                              go_ret
                              exact ⟨rfl, HA.out.below⟩
              · have hwI : ¬ (2 : Int) ≤ (wn : Int) := by omega
                have Hwt := Lib.hid (show ((L ++ tl false r).length : Int) = (rs.length : Int) by rw [lt_len, HlL.out]; (first | omega | (simp; omega) | (simp; done)))
                have hiv2 := Hiv.out
                rw [decide_eq_false hw2] at hiv2
                clear Hiv
                have Hiv := Lib.hid hiv2
                clear hiv2
                go_wp2_with fail
                as_aux_lemma =>
                  go_loopw [20] (fun i wr => ∃ (q : Nat) (Ts : List Tp) (F : Fu) (Z : HP), q ≤ fs.length ∧ q ≤ 6 ∧ i = .int .i64 q ∧ Iv L r false Ts ∧ (∀ i, i < 3 → TY L r (Ts.getD i Tp.new)) ∧ St W.heap.size W wr (tps (some ⟨fb, 0, none⟩) [p0, p1, p2] Ts * (fz (.pointer (some ⟨fb, 0, none⟩)) (some F) * (pts gl (.cells #[pp p0, pp p1, pp p2] 43 (0, 0)) * (pts (W.heap.size + 1) (.cells #[.int .i64 q0, .int .i64 q1, .int .i64 q2] 34 (0, 0)) * Z))))) (fun i _ => 6 - (intOf i).toNat)
                  case atStart => exact ⟨0, Ts, Fu.new 0, row 5 1 (.slice a2 nb c2) nb (bvs (jn1 r)) * (tro b p0 p1 p2 k * (pts W.heap.size (.cells #[.int .i64 n0, .int .i64 n1, .int .i64 n2] 34 (0, 0)) * emp)), Nat.zero_le _, by omega, rfl, Hiv.out, Hty.out, S14.out.eq (by rw [← HY.out]; ac_rfl)⟩
                  case round =>
                    obtain ⟨q, Ts3, F3, Z, hq, hq6, rfl, hiv3, hty3, s15⟩ := hrel
                    clear S14 Hiv Hty
                    have hT3 : Ts3.length = 3 := by obtain ⟨_, _, _, rfl, -⟩ := hiv3; rfl
                    have hjL : (jn L).length + (jn1 r).length ≤ 65536 := by have := Hnb.out; omega
                    by_cases hqt : q < fs.length ∧ q < 6
                    · obtain ⟨hqt, hqt6⟩ := hqt
                      have g1 : (q : Int) < (fs.length : Int) := by omega
                      have g2 : (q : Int) < 6 := by omega
                      obtain ⟨b3, o3, rfl⟩ := Hfs.out.head (by omega)
                      have cq := (Hfs.out.st rfl s15).cellAt q hqt
                      have k1 := and_m3 fs[q]
                      obtain ⟨yq, hyq, hyq8⟩ : ∃ y : Nat, fs[q] % 8 = (y : Int) ∧ y < 8 := ⟨(fs[q] % 8).toNat, by omega, by omega⟩
                      rw [hyq] at k1
                      generalize fs[q] = fq at *
                      have S15 := Lib.hid (s15.eq (Q := fz (.pointer (some ⟨fb, 0, none⟩)) (some F3) * (tps (some ⟨fb, 0, none⟩) [p0, p1, p2] Ts3 * (pts gl (.cells #[pp p0, pp p1, pp p2] 43 (0, 0)) * (pts (W.heap.size + 1) (.cells #[.int .i64 q0, .int .i64 q1, .int .i64 q2] 34 (0, 0)) * Z)))) (by ac_rfl))
                      obtain ⟨F', Ts4, hF', hFs, hiv4, hop⟩ := open_iv W.heap.size W p0 p1 p2 (some ⟨fb, 0, none⟩) (pts gl (.cells #[pp p0, pp p1, pp p2] 43 (0, 0)) * (pts (W.heap.size + 1) (.cells #[.int .i64 q0, .int .i64 q1, .int .i64 q2] 34 (0, 0)) * Z)) (F := some ⟨yq + 1, true⟩) (.inr ⟨_, rfl⟩) HokL.out Hor.out hiv3 hjL
                      obtain ⟨F4, rfl⟩ : ∃ F4, F' = some F4 := Option.isSome_iff_exists.1 (hFs rfl)
                      have Hop := Lib.hid hop
                      have Hiv4 := Lib.hid hiv4
                      clear hop hiv4
                      clear s15 hyq hiv3 hty3 hF' hFs
                      go_wp2_with fail
                      refine (set_calls _ _ ((yq : Int) + 1) _ (by omega) S15.out).mono ?_
                      rintro e w16 ⟨rfl, s16⟩
                      rw [show Fu.new ((yq : Int) + 1) = ⟨yq + 1, true⟩ by unfold Fu.new; congr 1; exact decide_eq_true (by omega)] at s16
                      have s17 := s16.eq (Q := pts gl (.cells #[pp p0, pp p1, pp p2] 43 (0, 0)) * (fz (.pointer (some ⟨fb, 0, none⟩)) (some ⟨yq + 1, true⟩) * (tps (some ⟨fb, 0, none⟩) [p0, p1, p2] Ts3 * (pts (W.heap.size + 1) (.cells #[.int .i64 q0, .int .i64 q1, .int .i64 q2] 34 (0, 0)) * Z)))) (by ac_rfl)
                      have c0 := s17.cell 0
                      have c1' := s17.cell 1
                      have c2' := s17.cell 2
                      simp at c0 c1' c2'
                      have S16 := Lib.hid s16
                      clear s16 s17 S15
                      go_wp2_with fail
                      clear c0 c1' c2'
                      refine (open_calls (some ⟨yq + 1, true⟩) Ts3 p0 p1 p2 (some ⟨fb, 0, none⟩) hT3 w16 (R := pts gl (.cells #[pp p0, pp p1, pp p2] 43 (0, 0)) * (pts (W.heap.size + 1) (.cells #[.int .i64 q0, .int .i64 q1, .int .i64 q2] 34 (0, 0)) * Z)) (S16.out.eq (by ac_rfl))).mono ?_
                      intro e w17 h
                      rcases Hop.out with hy | hn
                      · obtain ⟨X, b5, v5, vs5, rfl, hbr, s18⟩ := hy _ _ h
                        obtain ⟨A5, c5, rfl, -, -, -, -⟩ := hbr.val
                        have hwt2 : (((L ++ tl false r).length : Int) != (rs.length : Int)) = false := by rw [Hwt.out]; simp
                        obtain ⟨ln, hln⟩ : ∃ n, (L ++ tl false r).length = n := ⟨_, rfl⟩
                        rw [hln] at hwt2 s18
                        rw [hln]
                        have S18 := Lib.hid (s18.eq (Q := tps (some ⟨fb, 0, none⟩) [p0, p1, p2] Ts4 * (pts gl (.cells #[pp p0, pp p1, pp p2] 43 (0, 0)) * (pts (W.heap.size + 1) (.cells #[.int .i64 q0, .int .i64 q1, .int .i64 q2] 34 (0, 0)) * (fz (.pointer (some ⟨fb, 0, none⟩)) (some F4) * (X * (tro b5 p0 p1 p2 ln * Z)))))) (by rw [trx_eq]; ac_rfl))
                        generalize X * (tro b5 p0 p1 p2 ln * Z) = Z5 at *
                        clear s18 hbr h S16 Hop hy hln
                        as_aux_lemma =>
                          obtain ⟨T0, T1, T2, hTs, -⟩ := id Hiv4.out
                          subst hTs
                          have S19 := Lib.hid (show St W.heap.size W w17 (CQ (W.heap.size + 1) (some ⟨fb, 0, none⟩) p0 p1 p2 gl q0 q1 q2 T0 T1 T2 (fz (.pointer (some ⟨fb, 0, none⟩)) (some F4) * Z5) 0) from S18.out)
                          clear S18
                          go_wp2_with fail
                          go_loopw [24] (fun i wr => ∃ j : Nat, j ≤ 3 ∧ i = .int .i64 j ∧ St W.heap.size W wr (CQ (W.heap.size + 1) (some ⟨fb, 0, none⟩) p0 p1 p2 gl q0 q1 q2 T0 T1 T2 (fz (.pointer (some ⟨fb, 0, none⟩)) (some F4) * Z5) j)) (fun i _ => 3 - (intOf i).toNat)
                          case atStart => exact ⟨0, Nat.zero_le _, rfl, S19.out⟩
                          case round =>
                            obtain ⟨j, hj, rfl, s20⟩ := hrel
                            clear S19
                            by_cases hjt : j < 3
                            · have hjI : (j : Int) < 3 := by omega
                              obtain ⟨pj, hpj⟩ : ∃ z, [p0, p1, p2].getD j 0 = z := ⟨_, rfl⟩
                              obtain ⟨nj, hnj⟩ : ∃ z, [q0, q1, q2].getD j 0 = z := ⟨_, rfl⟩
                              have hg1 := fun (m : Nat) (w : World) (s : St W.heap.size W w (CQ (W.heap.size + 1) (some ⟨fb, 0, none⟩) p0 p1 p2 gl q0 q1 q2 T0 T1 T2 (fz (.pointer (some ⟨fb, 0, none⟩)) (some F4) * Z5) m)) => (cq_cell s j hjt).1
                              have hg2 := fun (m : Nat) (w : World) (s : St W.heap.size W w (CQ (W.heap.size + 1) (some ⟨fb, 0, none⟩) p0 p1 p2 gl q0 q1 q2 T0 T1 T2 (fz (.pointer (some ⟨fb, 0, none⟩)) (some F4) * Z5) m)) => (cq_cell s j hjt).2
                              have hcc := fun (w : World) (s : St W.heap.size W w (CQ (W.heap.size + 1) (some ⟨fb, 0, none⟩) p0 p1 p2 gl q0 q1 q2 T0 T1 T2 (fz (.pointer (some ⟨fb, 0, none⟩)) (some F4) * Z5) j)) => cq_crash s hm0 hm1 hm2 hjt
                              rw [hpj] at hg1 hcc
                              rw [hnj] at hg2 hcc
                              have S20 := Lib.hid s20
                              have Hg1 := Lib.hid hg1
                              have Hg2 := Lib.hid hg2
                              have Hcc := Lib.hid hcc
                              clear hg1 hg2 hcc
                              clear s20 hpj hnj
                              go_wp2_with fail
                              refine wp_region_rx (fun i w => St W.heap.size W w (CQ (W.heap.size + 1) (some ⟨fb, 0, none⟩) p0 p1 p2 gl q0 q1 q2 T0 T1 T2 (fz (.pointer (some ⟨fb, 0, none⟩)) (some F4) * Z5) (if i = 0 then j else j + 1))) [6] mixed (by kernel_rfl) (by kernel_rfl) S20.out.drew ?_
                              refine RXl.exact (.int .i64 j) rfl rfl rfl rfl rfl (fun _ _ _ _ _ => rfl) ?_
                              refine RXl.exact (.pointer (some ⟨gl, j, none⟩)) rfl rfl rfl rfl rfl (fun j τ w' hj hJ => by simp [rho, upd, Spec.val, execOp, go_sem, hjI]) ?_
                              refine RXl.exact (pp pj) rfl rfl rfl rfl rfl (fun j τ w' hj hJ => by have c := Hg1.out _ _ hJ; simp [rho, upd, Spec.val, execOp, go_sem, c]) ?_
                              refine RXl.exact (.int .i64 j) rfl rfl rfl rfl rfl (fun _ _ _ _ _ => rfl) ?_
                              refine RXl.exact (.pointer (some ⟨W.heap.size + 1, j, none⟩)) rfl rfl rfl rfl rfl (fun j τ w' hj hJ => by simp [rho, upd, Spec.val, execOp, go_sem, hjI]) ?_
                              refine RXl.exact (.int .i64 nj) rfl rfl rfl rfl rfl (fun j τ w' hj hJ => by have c := Hg2.out _ _ hJ; simp [rho, upd, Spec.val, execOp, go_sem, c]) ?_
                              refine RXl.callj 0 (.tuple #[]) _ [pp pj, .int .i64 nj] [.tmp 191, .tmp 194] _ rfl rfl rfl rfl rfl rfl (fun _ => rfl) (fun w' hJ => Hcc.out w' hJ) ?_
                              refine RXl.nilx _ (Agr.upd _ _ (Agr.upd _ _ (Agr.upd _ _ (Agr.upd _ _ (Agr.upd _ _ (Agr.upd _ _ (Agr.upd _ _ (Agr.base _)))))))) fun w21 hJ => ?_
                              obtain ⟨_, hJ⟩ := hJ
                              simp only [Act.put, List.setIfInBounds_toArray, List.set_cons_succ, List.set_cons_zero]
                              have S21 := Lib.hid (show St W.heap.size W w21 (CQ (W.heap.size + 1) (some ⟨fb, 0, none⟩) p0 p1 p2 gl q0 q1 q2 T0 T1 T2 (fz (.pointer (some ⟨fb, 0, none⟩)) (some F4) * Z5) (j + 1)) from hJ)
                              clear hJ S20
                              go_wp2_with fail
                              go_roundw
                              case rel => exact ⟨j + 1, by omega, by go_num, S21.out⟩
                              case measure => simp [intOf]; omega
                            · obtain rfl : j = 3 := by omega
                              have hiv6 := Hiv4.out.crash q0 q1 q2
                              have hty6 := Hiv4.out.crash_ty q0 q1 q2
                              unfold CQ at s20
                              generalize crs T0 T1 T2 q0 q1 q2 3 = Ts6 at *
                              have S21 := Lib.hid s20
                              have Hiv6 := Lib.hid hiv6
                              have Hty6 := Lib.hid hty6
                              clear hiv6 hty6
                              clear s20
                              go_wp2_with fail
                              go_roundw
                              case rel => exact ⟨q + 1, Ts6, F4, Z5, by omega, by omega, by go_num, Hiv6.out, Hty6.out, S21.out.eq (by ac_rfl)⟩
                              case measure => simp [intOf]; omega
                      · obtain ⟨rfl, s18⟩ := hn _ _ h
                        have S18 := Lib.hid (s18.eq (Q := tps (some ⟨fb, 0, none⟩) [p0, p1, p2] Ts4 * (pts gl (.cells #[pp p0, pp p1, pp p2] 43 (0, 0)) * (pts (W.heap.size + 1) (.cells #[.int .i64 q0, .int .i64 q1, .int .i64 q2] 34 (0, 0)) * (fz (.pointer (some ⟨fb, 0, none⟩)) (some F4) * Z)))) (by ac_rfl))
                        generalize Z = Z5 at *
                        clear s18 h S16 Hop hn
                        as_aux_lemma =>
                          obtain ⟨T0, T1, T2, hTs, -⟩ := id Hiv4.out
                          subst hTs
                          have S19 := Lib.hid (show St W.heap.size W w17 (CQ (W.heap.size + 1) (some ⟨fb, 0, none⟩) p0 p1 p2 gl q0 q1 q2 T0 T1 T2 (fz (.pointer (some ⟨fb, 0, none⟩)) (some F4) * Z5) 0) from S18.out)
                          clear S18
                          go_wp2_with fail
                          go_loopw [24] (fun i wr => ∃ j : Nat, j ≤ 3 ∧ i = .int .i64 j ∧ St W.heap.size W wr (CQ (W.heap.size + 1) (some ⟨fb, 0, none⟩) p0 p1 p2 gl q0 q1 q2 T0 T1 T2 (fz (.pointer (some ⟨fb, 0, none⟩)) (some F4) * Z5) j)) (fun i _ => 3 - (intOf i).toNat)
                          case atStart => exact ⟨0, Nat.zero_le _, rfl, S19.out⟩
                          case round =>
                            obtain ⟨j, hj, rfl, s20⟩ := hrel
                            clear S19
                            by_cases hjt : j < 3
                            · have hjI : (j : Int) < 3 := by omega
                              obtain ⟨pj, hpj⟩ : ∃ z, [p0, p1, p2].getD j 0 = z := ⟨_, rfl⟩
                              obtain ⟨nj, hnj⟩ : ∃ z, [q0, q1, q2].getD j 0 = z := ⟨_, rfl⟩
                              have hg1 := fun (m : Nat) (w : World) (s : St W.heap.size W w (CQ (W.heap.size + 1) (some ⟨fb, 0, none⟩) p0 p1 p2 gl q0 q1 q2 T0 T1 T2 (fz (.pointer (some ⟨fb, 0, none⟩)) (some F4) * Z5) m)) => (cq_cell s j hjt).1
                              have hg2 := fun (m : Nat) (w : World) (s : St W.heap.size W w (CQ (W.heap.size + 1) (some ⟨fb, 0, none⟩) p0 p1 p2 gl q0 q1 q2 T0 T1 T2 (fz (.pointer (some ⟨fb, 0, none⟩)) (some F4) * Z5) m)) => (cq_cell s j hjt).2
                              have hcc := fun (w : World) (s : St W.heap.size W w (CQ (W.heap.size + 1) (some ⟨fb, 0, none⟩) p0 p1 p2 gl q0 q1 q2 T0 T1 T2 (fz (.pointer (some ⟨fb, 0, none⟩)) (some F4) * Z5) j)) => cq_crash s hm0 hm1 hm2 hjt
                              rw [hpj] at hg1 hcc
                              rw [hnj] at hg2 hcc
                              have S20 := Lib.hid s20
                              have Hg1 := Lib.hid hg1
                              have Hg2 := Lib.hid hg2
                              have Hcc := Lib.hid hcc
                              clear hg1 hg2 hcc
                              clear s20 hpj hnj
                              go_wp2_with fail
                              refine wp_region_rx (fun i w => St W.heap.size W w (CQ (W.heap.size + 1) (some ⟨fb, 0, none⟩) p0 p1 p2 gl q0 q1 q2 T0 T1 T2 (fz (.pointer (some ⟨fb, 0, none⟩)) (some F4) * Z5) (if i = 0 then j else j + 1))) [6] mixed (by kernel_rfl) (by kernel_rfl) S20.out.drew ?_
                              refine RXl.exact (.int .i64 j) rfl rfl rfl rfl rfl (fun _ _ _ _ _ => rfl) ?_
                              refine RXl.exact (.pointer (some ⟨gl, j, none⟩)) rfl rfl rfl rfl rfl (fun j τ w' hj hJ => by simp [rho, upd, Spec.val, execOp, go_sem, hjI]) ?_
                              refine RXl.exact (pp pj) rfl rfl rfl rfl rfl (fun j τ w' hj hJ => by have c := Hg1.out _ _ hJ; simp [rho, upd, Spec.val, execOp, go_sem, c]) ?_
                              refine RXl.exact (.int .i64 j) rfl rfl rfl rfl rfl (fun _ _ _ _ _ => rfl) ?_
                              refine RXl.exact (.pointer (some ⟨W.heap.size + 1, j, none⟩)) rfl rfl rfl rfl rfl (fun j τ w' hj hJ => by simp [rho, upd, Spec.val, execOp, go_sem, hjI]) ?_
                              refine RXl.exact (.int .i64 nj) rfl rfl rfl rfl rfl (fun j τ w' hj hJ => by have c := Hg2.out _ _ hJ; simp [rho, upd, Spec.val, execOp, go_sem, c]) ?_
                              refine RXl.callj 0 (.tuple #[]) _ [pp pj, .int .i64 nj] [.tmp 191, .tmp 194] _ rfl rfl rfl rfl rfl rfl (fun _ => rfl) (fun w' hJ => Hcc.out w' hJ) ?_
                              refine RXl.nilx _ (Agr.upd _ _ (Agr.upd _ _ (Agr.upd _ _ (Agr.upd _ _ (Agr.upd _ _ (Agr.upd _ _ (Agr.upd _ _ (Agr.base _)))))))) fun w21 hJ => ?_
                              obtain ⟨_, hJ⟩ := hJ
                              simp only [Act.put, List.setIfInBounds_toArray, List.set_cons_succ, List.set_cons_zero]
                              have S21 := Lib.hid (show St W.heap.size W w21 (CQ (W.heap.size + 1) (some ⟨fb, 0, none⟩) p0 p1 p2 gl q0 q1 q2 T0 T1 T2 (fz (.pointer (some ⟨fb, 0, none⟩)) (some F4) * Z5) (j + 1)) from hJ)
                              clear hJ S20
                              go_wp2_with fail
                              go_roundw
                              case rel => exact ⟨j + 1, by omega, by go_num, S21.out⟩
                              case measure => simp [intOf]; omega
                            · obtain rfl : j = 3 := by omega
                              have hiv6 := Hiv4.out.crash q0 q1 q2
                              have hty6 := Hiv4.out.crash_ty q0 q1 q2
                              unfold CQ at s20
                              generalize crs T0 T1 T2 q0 q1 q2 3 = Ts6 at *
                              have S21 := Lib.hid s20
                              have Hiv6 := Lib.hid hiv6
                              have Hty6 := Lib.hid hty6
                              clear hiv6 hty6
                              clear s20
                              go_wp2_with fail
                              go_roundw
                              case rel => exact ⟨q + 1, Ts6, F4, Z5, by omega, by omega, by go_num, Hiv6.out, Hty6.out, S21.out.eq (by ac_rfl)⟩
                              case measure => simp [intOf]; omega
                    · have h7 : ¬ (q : Int) < (fs.length : Int) ∨ (q : Int) < (fs.length : Int) ∧ ¬ (q : Int) < 6 := by omega
                      clear hqt
                      rcases h7 with h7 | ⟨h7, h8⟩
                      · as_aux_lemma =>
                          obtain ⟨Ts4, hop⟩ := open_last W.heap.size W p0 p1 p2 (some ⟨fb, 0, none⟩) (pts gl (.cells #[pp p0, pp p1, pp p2] 43 (0, 0)) * (pts (W.heap.size + 1) (.cells #[.int .i64 q0, .int .i64 q1, .int .i64 q2] 34 (0, 0)) * Z)) und_zero HokL.out Hor.out hiv3 hty3 hjL
                          have S15 := Lib.hid (s15.eq (Q := fz (.pointer (some ⟨fb, 0, none⟩)) (some F3) * (tps (some ⟨fb, 0, none⟩) [p0, p1, p2] Ts3 * (pts gl (.cells #[pp p0, pp p1, pp p2] 43 (0, 0)) * (pts (W.heap.size + 1) (.cells #[.int .i64 q0, .int .i64 q1, .int .i64 q2] 34 (0, 0)) * Z)))) (by ac_rfl))
                          have Hop := Lib.hid hop
                          clear hop
                          clear s15 hiv3 hty3
                          go_wp2_with fail
                          refine (set_calls _ _ 0 _ (by omega) S15.out).mono ?_
                          rintro e w16 ⟨rfl, s16⟩
                          have s17 := s16.eq (Q := pts gl (.cells #[pp p0, pp p1, pp p2] 43 (0, 0)) * (fz (.pointer (some ⟨fb, 0, none⟩)) (some (Fu.new 0)) * (tps (some ⟨fb, 0, none⟩) [p0, p1, p2] Ts3 * (pts (W.heap.size + 1) (.cells #[.int .i64 q0, .int .i64 q1, .int .i64 q2] 34 (0, 0)) * Z)))) (by ac_rfl)
                          have c0 := s17.cell 0
                          have c1' := s17.cell 1
                          have c2' := s17.cell 2
                          simp at c0 c1' c2'
                          have S16 := Lib.hid s16
                          clear s16 s17 S15
                          go_wp2_with fail
                          clear c0 c1' c2'
                          refine (open_calls (some (Fu.new 0)) Ts3 p0 p1 p2 (some ⟨fb, 0, none⟩) hT3 w16 (R := pts gl (.cells #[pp p0, pp p1, pp p2] 43 (0, 0)) * (pts (W.heap.size + 1) (.cells #[.int .i64 q0, .int .i64 q1, .int .i64 q2] 34 (0, 0)) * Z)) (S16.out.eq (by ac_rfl))).mono ?_
                          intro e w17 h
                          obtain ⟨X, b5, v5, vs5, rfl, hbr, s18⟩ := Hop.out _ _ h
                          have hwt2 : (((L ++ tl false r).length : Int) != (rs.length : Int)) = false := by rw [Hwt.out]; simp
                          have Hmi := Lib.hid (show (if (10 : Int) < (rs.length : Int) then (10 : Int) else (rs.length : Int)) = (k : Int) by have := Hmin.out; split <;> omega)
                          have hLn : (L ++ tl false r).length = k + if false then 1 else 0 := by rw [lt_len, HlL.out]
                          have hget : ∀ (j : Nat) (hj : j < (L ++ tl false r).length), (j < k ∧ ∃ h : j < rs.length, (L ++ tl false r)[j] = rs[j]) ∨ (j = k ∧ (L ++ tl false r)[j] = r) := by
                            intro j hj
                            rw [hLn] at hj
                            by_cases h : j < k
                            · refine .inl ⟨h, by have := Hmin.out; omega, ?_⟩
                              rw [List.getElem_append_left (by rw [HlL.out]; exact h)]
                              have := HLd.out
                              subst this
                              rw [List.getElem_take]
                            · have hf : false = true := by first | rfl | (exfalso; simp at hj; omega)
                              have hjk : j = k := by rw [hf] at hj; simp at hj; omega
                              refine .inr ⟨hjk, ?_⟩
                              rw [List.getElem_append_right (by rw [HlL.out]; omega)]
                              simp [tl, hf]
                          generalize hLs : L ++ tl false r = Ls at *
                          obtain ⟨R8, hR8⟩ : ∃ ZZ, ZZ = trx b5 (some ⟨fb, 0, none⟩) [p0, p1, p2] Ls.length Ts4 (some (Fu.new 0)) * (pts gl (.cells #[pp p0, pp p1, pp p2] 43 (0, 0)) * (pts (W.heap.size + 1) (.cells #[.int .i64 q0, .int .i64 q1, .int .i64 q2] 34 (0, 0)) * Z)) := ⟨_, rfl⟩
                          rw [← hR8] at s18
                          obtain ⟨A5, c5, rfl, h51, h52, h53, h54⟩ := hbr.val
                          have S18 := Lib.hid s18
                          have Hln := Lib.hid hLn
                          have Hbr := Lib.hid hbr
                          have H53 := Lib.hid h53
                          have H54 := Lib.hid h54
                          have HLs := Lib.hid hLs
                          have Hget := Lib.hid hget
                          clear hbr h53 h54 hLs hget
                          clear s18 h S16 Hop hR8 hLn
                          go_wp2_with fail
                          go_loopw [28] (fun i wr => ∃ j : Nat, j ≤ Ls.length ∧ i = .int .i64 j ∧ St W.heap.size W wr (X * R8)) (fun i _ => Ls.length - (intOf i).toNat)
                          case atStart => exact ⟨0, Nat.zero_le _, rfl, S18.out⟩
                          case round =>
                            obtain ⟨j, hj, rfl, s19⟩ := hrel
                            clear S18
                            by_cases hjt : j < Ls.length
                            · have t3 : (j : Int) < (Ls.length : Int) := by omega
                              have hg := Hget.out j hjt
                              obtain ⟨u, hu, hbu⟩ := Hbr.out.at' wr R8 (s19.eq (sep_comm _ _)) j hjt
                              obtain ⟨aj, cj, rfl, -⟩ := id hbu
                              have hne : vs5 ≠ [] := by intro e; rw [e] at hu; simp at hu
                              obtain ⟨bg, og, rfl, -⟩ := (H54.out wr R8 (s19.eq (sep_comm _ _))).at hne
                              have hcg : ∀ w, St W.heap.size W w (X * R8) → w.cell? ⟨bg, og + j, none⟩ = some (.slice aj Ls[j].length cj) := fun w s => by
                                obtain ⟨_, _, e, hc⟩ := (H54.out w R8 (s.eq (sep_comm _ _))).at hne
                                cases e
                                exact hc j _ hu
                              have hbg : ∀ w, St W.heap.size W w (X * R8) → BS w (.slice aj Ls[j].length cj) Ls[j] := fun w s => by
                                obtain ⟨u', hu', hb'⟩ := Hbr.out.at' w R8 (s.eq (sep_comm _ _)) j hjt
                                rw [hu] at hu'
                                cases hu'
                                exact hb'
                              generalize Ls[j] = lj at *
                              have S19 := Lib.hid s19
                              have Hcg := Lib.hid hcg
                              have Hbg := Lib.hid hbg
                              clear hcg hbg
                              clear s19 hbu hu
                              rcases hg with ⟨hjk, hjr, hlj⟩ | ⟨hjk, hlj⟩
                              · obtain ⟨-, -, -, -, us, hru, hlv, hbu⟩ := Hrs.out.open'
                                obtain ⟨u, hu, hbu⟩ := hbu j hjr
                                rw [← hlj] at hbu
                                obtain ⟨ar, cr, rfl, -⟩ := id hbu
                                obtain ⟨b1, o1, rfl, hc⟩ := hru.at (by rintro rfl; rw [List.length_nil] at hlv; omega)
                                have hcr : ∀ w, St W.heap.size W w (X * R8) → w.cell? ⟨b1, o1 + j, none⟩ = some (.slice ar lj.length cr) := fun w s => Add.cell s.below (hc j _ hu)
                                have hbr2 : ∀ w, St W.heap.size W w (X * R8) → BS w (.slice ar lj.length cr) lj := fun w s => hbu.below s.below
                                have t4 : (j : Int) < (rs.length : Int) := by omega
                                have t5 : (j : Int) < 10 := by omega
                                have t6 : ¬ (k : Int) ≤ (j : Int) := by omega
                                have Hcr := Lib.hid hcr
                                have Hbr2 := Lib.hid hbr2
                                clear hcr hbr2
                                clear hru hlv hbu hu hc hlj
                                go_wp2_with fail
                                refine wp_region_rx (fun _ w' => St W.heap.size W w' (X * R8)) [] mixed (by kernel_rfl) (by kernel_rfl) S19.out.drew ?_
                                refine RXl.exact (.int .i64 j) rfl rfl rfl rfl rfl (fun _ _ _ _ _ => rfl) ?_
                                refine RXl.exact (.slice (some ⟨b1, o1, none⟩) rs.length ca) rfl rfl rfl rfl rfl (fun _ _ _ _ _ => rfl) ?_
                                refine RXl.exact (.int .i64 rs.length) rfl rfl rfl rfl rfl (fun j τ w' hj hJ => by simp [rho, upd, Spec.val, execOp, go_sem, resolve, invoke, builtin]) ?_
                                refine RXl.exact (.bool true) rfl rfl rfl rfl rfl (fun j τ w' hj hJ => by simp [rho, upd, Spec.val, execOp, go_sem, t4]) ?_
                                refine RXl.exact (.bool true) rfl rfl rfl rfl rfl (fun _ _ _ _ _ => rfl) ?_
                                refine RXl.exact (.int .i64 j) rfl rfl rfl rfl rfl (fun _ _ _ _ _ => rfl) ?_
                                refine RXl.exact (.bool true) rfl rfl rfl rfl rfl (fun j τ w' hj hJ => by simp [rho, upd, Spec.val, execOp, go_sem, t5]) ?_
                                refine RXl.exact (.bool true) rfl rfl rfl rfl rfl (fun _ _ _ _ _ => rfl) ?_
                                refine RXl.exact (.bool true) rfl rfl rfl rfl rfl (fun _ _ _ _ _ => rfl) ?_
                                refine RXl.exact (.slice (some ⟨bg, og, none⟩) Ls.length c5) rfl rfl rfl rfl rfl (fun _ _ _ _ _ => rfl) ?_
                                refine RXl.exact (.int .i64 j) rfl rfl rfl rfl rfl (fun _ _ _ _ _ => rfl) ?_
                                refine RXl.exact (.pointer (some ⟨bg, og + j, none⟩)) rfl rfl rfl rfl rfl (fun j τ w' hj hJ => by simp [rho, upd, Spec.val, execOp, go_sem, t3]) ?_
                                refine RXl.exact (.slice aj lj.length cj) rfl rfl rfl rfl rfl (fun j τ w' hj hJ => by have c := Hcg.out _ hJ; simp [rho, upd, Spec.val, execOp, go_sem, c]) ?_
                                refine RXl.exact (str lj) rfl rfl rfl rfl rfl (fun j τ w' hj hJ => exec_convert rfl (run_str Try.underlying23 Try.underlying5 Try.underlying9 (Hbg.out _ hJ))) ?_
                                refine RXl.exact (.slice (some ⟨b1, o1, none⟩) rs.length ca) rfl rfl rfl rfl rfl (fun _ _ _ _ _ => rfl) ?_
                                refine RXl.exact (.int .i64 j) rfl rfl rfl rfl rfl (fun _ _ _ _ _ => rfl) ?_
                                refine RXl.exact (.pointer (some ⟨b1, o1 + j, none⟩)) rfl rfl rfl rfl rfl (fun j τ w' hj hJ => by simp [rho, upd, Spec.val, execOp, go_sem, t4]) ?_
                                refine RXl.exact (.slice ar lj.length cr) rfl rfl rfl rfl rfl (fun j τ w' hj hJ => by have c := Hcr.out _ hJ; simp [rho, upd, Spec.val, execOp, go_sem, c]) ?_
                                refine RXl.exact (str lj) rfl rfl rfl rfl rfl (fun j τ w' hj hJ => exec_convert rfl (run_str Try.underlying23 Try.underlying5 Try.underlying9 (Hbr2.out _ hJ))) ?_
                                refine RXl.exact (.bool false) rfl rfl rfl rfl rfl (fun j τ w' hj hJ => by simp [rho, upd, Spec.val, execOp, go_sem]) ?_
                                refine RXl.exact (.bool false) rfl rfl rfl rfl rfl (fun _ _ _ _ _ => rfl) ?_
                                refine RXl.exact (.bool false) rfl rfl rfl rfl rfl (fun _ _ _ _ _ => rfl) ?_
                                refine RXl.exact (.int .i64 j) rfl rfl rfl rfl rfl (fun _ _ _ _ _ => rfl) ?_
                                refine RXl.exact (.slice (some ⟨b1, o1, none⟩) rs.length ca) rfl rfl rfl rfl rfl (fun _ _ _ _ _ => rfl) ?_
                                refine RXl.exact (.int .i64 rs.length) rfl rfl rfl rfl rfl (fun j τ w' hj hJ => by simp [rho, upd, Spec.val, execOp, go_sem, resolve, invoke, builtin]) ?_
                                refine RXl.exact (.int .i64 k) rfl rfl rfl rfl rfl (fun j τ w' hj hJ => by simp [rho, upd, Spec.val, execOp, go_sem, resolve, invoke, builtin, Hmi.out]) ?_
                                refine RXl.exact (.bool false) rfl rfl rfl rfl rfl (fun j τ w' hj hJ => by simp [rho, upd, Spec.val, execOp, go_sem]; exact hjk) ?_
                                refine RXl.exact (.bool false) rfl rfl rfl rfl rfl (fun _ _ _ _ _ => rfl) ?_
                                refine RXl.skip rfl rfl rfl rfl ?_
                                refine RXl.skip rfl rfl rfl rfl ?_
                                refine RXl.skip rfl rfl rfl rfl ?_
                                refine RXl.skip rfl rfl rfl rfl ?_
                                refine RXl.skip rfl rfl rfl rfl ?_
                                refine RXl.skip rfl rfl rfl rfl ?_
                                refine RXl.skip rfl rfl rfl rfl ?_
                                refine RXl.skip rfl rfl rfl rfl ?_
                                refine RXl.exact (.bool false) rfl rfl rfl rfl rfl (fun _ _ _ _ _ => rfl) ?_
                                refine RXl.exact (.bool false) rfl rfl rfl rfl rfl (fun _ _ _ _ _ => rfl) ?_
                                refine RXl.nilx _ (Agr.upd _ _ (Agr.upd _ _ (Agr.upd _ _ (Agr.upd _ _ (Agr.upd _ _ (Agr.upd _ _ (Agr.upd _ _ (Agr.upd _ _ (Agr.upd _ _ (Agr.upd _ _ (Agr.upd _ _ (Agr.upd _ _ (Agr.upd _ _ (Agr.upd _ _ (Agr.upd _ _ (Agr.upd _ _ (Agr.upd _ _ (Agr.upd _ _ (Agr.upd _ _ (Agr.upd _ _ (Agr.upd _ _ (Agr.upd _ _ (Agr.upd _ _ (Agr.upd _ _ (Agr.upd _ _ (Agr.upd _ _ (Agr.upd _ _ (Agr.upd _ _ (Agr.upd _ _ (Agr.upd _ _ (Agr.upd _ _ (Agr.upd _ _ (Agr.upd _ _ (Agr.upd _ _ (Agr.upd _ _ (Agr.upd _ _ (Agr.upd _ _ (Agr.upd _ _ (Agr.base _))))))))))))))))))))))))))))))))))))))) fun w22 hJ => ?_
                                obtain ⟨_, hJ⟩ := hJ
                                simp only [Act.put, List.setIfInBounds_toArray, List.set_cons_succ, List.set_cons_zero]
                                have S20 := Lib.hid (show St W.heap.size W w22 (X * R8) from hJ)
                                clear hJ S19
                                go_wp2_with fail
                                go_roundw
                                case rel => exact ⟨j + 1, by omega, by go_num, S20.out⟩
                                case measure => simp [intOf]; omega
                              · have t7 : (k : Int) ≤ (j : Int) := by omega
                                have hbr2 : ∀ w, St W.heap.size W w (X * R8) → BS w (.slice a1 r.length c1) r := fun w s => Hr.out.st rfl s
                                have Hbr2 := Lib.hid hbr2
                                have Hlj := Lib.hid hlj
                                clear hbr2 hlj
                                go_wp2_with fail
                                refine wp_region_rx (fun _ w' => St W.heap.size W w' (X * R8)) [] mixed (by kernel_rfl) (by kernel_rfl) S19.out.drew ?_
                                refine RXl.exact (.int .i64 j) rfl rfl rfl rfl rfl (fun _ _ _ _ _ => rfl) ?_
                                refine RXl.exact (.slice a rs.length ca) rfl rfl rfl rfl rfl (fun _ _ _ _ _ => rfl) ?_
                                refine RXl.exact (.int .i64 rs.length) rfl rfl rfl rfl rfl (fun j τ w' hj hJ => by simp [rho, upd, Spec.val, execOp, go_sem, resolve, invoke, builtin]) ?_
                                refine RXl.exact (.bool false) rfl rfl rfl rfl rfl (fun j τ w' hj hJ => by simp [rho, upd, Spec.val, execOp, go_sem] <;> omega) ?_
                                refine RXl.exact (.bool false) rfl rfl rfl rfl rfl (fun _ _ _ _ _ => rfl) ?_
                                refine RXl.skip rfl rfl rfl rfl ?_
                                refine RXl.skip rfl rfl rfl rfl ?_
                                refine RXl.exact (.bool false) rfl rfl rfl rfl rfl (fun _ _ _ _ _ => rfl) ?_
                                refine RXl.exact (.bool false) rfl rfl rfl rfl rfl (fun _ _ _ _ _ => rfl) ?_
                                refine RXl.skip rfl rfl rfl rfl ?_
                                refine RXl.skip rfl rfl rfl rfl ?_
                                refine RXl.skip rfl rfl rfl rfl ?_
                                refine RXl.skip rfl rfl rfl rfl ?_
                                refine RXl.skip rfl rfl rfl rfl ?_
                                refine RXl.skip rfl rfl rfl rfl ?_
                                refine RXl.skip rfl rfl rfl rfl ?_
                                refine RXl.skip rfl rfl rfl rfl ?_
                                refine RXl.skip rfl rfl rfl rfl ?_
                                refine RXl.skip rfl rfl rfl rfl ?_
                                refine RXl.skip rfl rfl rfl rfl ?_
                                refine RXl.exact (.bool false) rfl rfl rfl rfl rfl (fun _ _ _ _ _ => rfl) ?_
                                refine RXl.exact (.bool false) rfl rfl rfl rfl rfl (fun _ _ _ _ _ => rfl) ?_
                                refine RXl.exact (.int .i64 j) rfl rfl rfl rfl rfl (fun _ _ _ _ _ => rfl) ?_
                                refine RXl.exact (.slice a rs.length ca) rfl rfl rfl rfl rfl (fun _ _ _ _ _ => rfl) ?_
                                refine RXl.exact (.int .i64 rs.length) rfl rfl rfl rfl rfl (fun j τ w' hj hJ => by simp [rho, upd, Spec.val, execOp, go_sem, resolve, invoke, builtin]) ?_
                                refine RXl.exact (.int .i64 k) rfl rfl rfl rfl rfl (fun j τ w' hj hJ => by simp [rho, upd, Spec.val, execOp, go_sem, resolve, invoke, builtin, Hmi.out]) ?_
                                refine RXl.exact (.bool true) rfl rfl rfl rfl rfl (fun j τ w' hj hJ => by simp [rho, upd, Spec.val, execOp, go_sem] <;> omega) ?_
                                refine RXl.exact (.bool true) rfl rfl rfl rfl rfl (fun _ _ _ _ _ => rfl) ?_
                                refine RXl.exact (.slice (some ⟨bg, og, none⟩) Ls.length c5) rfl rfl rfl rfl rfl (fun _ _ _ _ _ => rfl) ?_
                                refine RXl.exact (.int .i64 j) rfl rfl rfl rfl rfl (fun _ _ _ _ _ => rfl) ?_
                                refine RXl.exact (.pointer (some ⟨bg, og + j, none⟩)) rfl rfl rfl rfl rfl (fun j τ w' hj hJ => by simp [rho, upd, Spec.val, execOp, go_sem, t3]) ?_
                                refine RXl.exact (.slice aj lj.length cj) rfl rfl rfl rfl rfl (fun j τ w' hj hJ => by have c := Hcg.out _ hJ; simp [rho, upd, Spec.val, execOp, go_sem, c]) ?_
                                refine RXl.exact (str lj) rfl rfl rfl rfl rfl (fun j τ w' hj hJ => exec_convert rfl (run_str Try.underlying23 Try.underlying5 Try.underlying9 (Hbg.out _ hJ))) ?_
                                refine RXl.exact (.slice a1 r.length c1) rfl rfl rfl rfl rfl (fun _ _ _ _ _ => rfl) ?_
                                refine RXl.exact (str lj) rfl rfl rfl rfl rfl (fun j τ w' hj hJ => by rw [Hlj.out]; exact exec_convert rfl (run_str Try.underlying23 Try.underlying5 Try.underlying9 (Hbr2.out _ hJ))) ?_
                                refine RXl.exact (.bool false) rfl rfl rfl rfl rfl (fun j τ w' hj hJ => by simp [rho, upd, Spec.val, execOp, go_sem]) ?_
                                refine RXl.exact (.bool false) rfl rfl rfl rfl rfl (fun _ _ _ _ _ => rfl) ?_
                                refine RXl.exact (.bool false) rfl rfl rfl rfl rfl (fun _ _ _ _ _ => rfl) ?_
                                refine RXl.nilx _ (Agr.upd _ _ (Agr.upd _ _ (Agr.upd _ _ (Agr.upd _ _ (Agr.upd _ _ (Agr.upd _ _ (Agr.upd _ _ (Agr.upd _ _ (Agr.upd _ _ (Agr.upd _ _ (Agr.upd _ _ (Agr.upd _ _ (Agr.upd _ _ (Agr.upd _ _ (Agr.upd _ _ (Agr.upd _ _ (Agr.upd _ _ (Agr.upd _ _ (Agr.upd _ _ (Agr.upd _ _ (Agr.upd _ _ (Agr.upd _ _ (Agr.upd _ _ (Agr.upd _ _ (Agr.upd _ _ (Agr.upd _ _ (Agr.upd _ _ (Agr.upd _ _ (Agr.upd _ _ (Agr.upd _ _ (Agr.upd _ _ (Agr.upd _ _ (Agr.upd _ _ (Agr.upd _ _ (Agr.upd _ _ (Agr.upd _ _ (Agr.upd _ _ (Agr.upd _ _ (Agr.base _))))))))))))))))))))))))))))))))))))))) fun w22 hJ => ?_
                                obtain ⟨_, hJ⟩ := hJ
                                simp only [Act.put, List.setIfInBounds_toArray, List.set_cons_succ, List.set_cons_zero]
                                have S20 := Lib.hid (show St W.heap.size W w22 (X * R8) from hJ)
                                clear hJ S19
                                go_wp2_with fail
                                go_roundw
                                case rel => exact ⟨j + 1, by omega, by go_num, S20.out⟩
                                case measure => simp [intOf]; omega
                            · obtain rfl : j = Ls.length := by omega
                              have S19 := Lib.hid s19
                              clear s19
                              go_wp2_with fail
                              refine (awake_calls _).mono ?_
                              rintro e w20 ⟨rfl, h2⟩
                              have HA := Lib.hid (S19.out.keep h2)
                              clear h2 S19
                              go_wp2_with fail
                              go_ret
                              exact ⟨rfl, HA.out.below⟩
                      · as_aux_lemma =>
                          obtain ⟨Ts4, hop⟩ := open_last W.heap.size W p0 p1 p2 (some ⟨fb, 0, none⟩) (pts gl (.cells #[pp p0, pp p1, pp p2] 43 (0, 0)) * (pts (W.heap.size + 1) (.cells #[.int .i64 q0, .int .i64 q1, .int .i64 q2] 34 (0, 0)) * Z)) und_zero HokL.out Hor.out hiv3 hty3 hjL
                          have S15 := Lib.hid (s15.eq (Q := fz (.pointer (some ⟨fb, 0, none⟩)) (some F3) * (tps (some ⟨fb, 0, none⟩) [p0, p1, p2] Ts3 * (pts gl (.cells #[pp p0, pp p1, pp p2] 43 (0, 0)) * (pts (W.heap.size + 1) (.cells #[.int .i64 q0, .int .i64 q1, .int .i64 q2] 34 (0, 0)) * Z)))) (by ac_rfl))
                          have Hop := Lib.hid hop
                          clear hop
                          clear s15 hiv3 hty3
                          go_wp2_with fail
                          refine (set_calls _ _ 0 _ (by omega) S15.out).mono ?_
                          rintro e w16 ⟨rfl, s16⟩
                          have s17 := s16.eq (Q := pts gl (.cells #[pp p0, pp p1, pp p2] 43 (0, 0)) * (fz (.pointer (some ⟨fb, 0, none⟩)) (some (Fu.new 0)) * (tps (some ⟨fb, 0, none⟩) [p0, p1, p2] Ts3 * (pts (W.heap.size + 1) (.cells #[.int .i64 q0, .int .i64 q1, .int .i64 q2] 34 (0, 0)) * Z)))) (by ac_rfl)
                          have c0 := s17.cell 0
                          have c1' := s17.cell 1
                          have c2' := s17.cell 2
                          simp at c0 c1' c2'
                          have S16 := Lib.hid s16
                          clear s16 s17 S15
                          go_wp2_with fail
                          clear c0 c1' c2'
                          refine (open_calls (some (Fu.new 0)) Ts3 p0 p1 p2 (some ⟨fb, 0, none⟩) hT3 w16 (R := pts gl (.cells #[pp p0, pp p1, pp p2] 43 (0, 0)) * (pts (W.heap.size + 1) (.cells #[.int .i64 q0, .int .i64 q1, .int .i64 q2] 34 (0, 0)) * Z)) (S16.out.eq (by ac_rfl))).mono ?_
                          intro e w17 h
                          obtain ⟨X, b5, v5, vs5, rfl, hbr, s18⟩ := Hop.out _ _ h
                          have hwt2 : (((L ++ tl false r).length : Int) != (rs.length : Int)) = false := by rw [Hwt.out]; simp
                          have Hmi := Lib.hid (show (if (10 : Int) < (rs.length : Int) then (10 : Int) else (rs.length : Int)) = (k : Int) by have := Hmin.out; split <;> omega)
                          have hLn : (L ++ tl false r).length = k + if false then 1 else 0 := by rw [lt_len, HlL.out]
                          have hget : ∀ (j : Nat) (hj : j < (L ++ tl false r).length), (j < k ∧ ∃ h : j < rs.length, (L ++ tl false r)[j] = rs[j]) ∨ (j = k ∧ (L ++ tl false r)[j] = r) := by
                            intro j hj
                            rw [hLn] at hj
                            by_cases h : j < k
                            · refine .inl ⟨h, by have := Hmin.out; omega, ?_⟩
                              rw [List.getElem_append_left (by rw [HlL.out]; exact h)]
                              have := HLd.out
                              subst this
                              rw [List.getElem_take]
                            · have hf : false = true := by first | rfl | (exfalso; simp at hj; omega)
                              have hjk : j = k := by rw [hf] at hj; simp at hj; omega
                              refine .inr ⟨hjk, ?_⟩
                              rw [List.getElem_append_right (by rw [HlL.out]; omega)]
                              simp [tl, hf]
                          generalize hLs : L ++ tl false r = Ls at *
                          obtain ⟨R8, hR8⟩ : ∃ ZZ, ZZ = trx b5 (some ⟨fb, 0, none⟩) [p0, p1, p2] Ls.length Ts4 (some (Fu.new 0)) * (pts gl (.cells #[pp p0, pp p1, pp p2] 43 (0, 0)) * (pts (W.heap.size + 1) (.cells #[.int .i64 q0, .int .i64 q1, .int .i64 q2] 34 (0, 0)) * Z)) := ⟨_, rfl⟩
                          rw [← hR8] at s18
                          obtain ⟨A5, c5, rfl, h51, h52, h53, h54⟩ := hbr.val
                          have S18 := Lib.hid s18
                          have Hln := Lib.hid hLn
                          have Hbr := Lib.hid hbr
                          have H53 := Lib.hid h53
                          have H54 := Lib.hid h54
                          have HLs := Lib.hid hLs
                          have Hget := Lib.hid hget
                          clear hbr h53 h54 hLs hget
                          clear s18 h S16 Hop hR8 hLn
                          go_wp2_with fail
                          go_loopw [28] (fun i wr => ∃ j : Nat, j ≤ Ls.length ∧ i = .int .i64 j ∧ St W.heap.size W wr (X * R8)) (fun i _ => Ls.length - (intOf i).toNat)
                          case atStart => exact ⟨0, Nat.zero_le _, rfl, S18.out⟩
                          case round =>
                            obtain ⟨j, hj, rfl, s19⟩ := hrel
                            clear S18
                            by_cases hjt : j < Ls.length
                            · have t3 : (j : Int) < (Ls.length : Int) := by omega
                              have hg := Hget.out j hjt
                              obtain ⟨u, hu, hbu⟩ := Hbr.out.at' wr R8 (s19.eq (sep_comm _ _)) j hjt
                              obtain ⟨aj, cj, rfl, -⟩ := id hbu
                              have hne : vs5 ≠ [] := by intro e; rw [e] at hu; simp at hu
                              obtain ⟨bg, og, rfl, -⟩ := (H54.out wr R8 (s19.eq (sep_comm _ _))).at hne
                              have hcg : ∀ w, St W.heap.size W w (X * R8) → w.cell? ⟨bg, og + j, none⟩ = some (.slice aj Ls[j].length cj) := fun w s => by
                                obtain ⟨_, _, e, hc⟩ := (H54.out w R8 (s.eq (sep_comm _ _))).at hne
                                cases e
                                exact hc j _ hu
                              have hbg : ∀ w, St W.heap.size W w (X * R8) → BS w (.slice aj Ls[j].length cj) Ls[j] := fun w s => by
                                obtain ⟨u', hu', hb'⟩ := Hbr.out.at' w R8 (s.eq (sep_comm _ _)) j hjt
                                rw [hu] at hu'
                                cases hu'
                                exact hb'
                              generalize Ls[j] = lj at *
                              have S19 := Lib.hid s19
                              have Hcg := Lib.hid hcg
                              have Hbg := Lib.hid hbg
                              clear hcg hbg
                              clear s19 hbu hu
                              rcases hg with ⟨hjk, hjr, hlj⟩ | ⟨hjk, hlj⟩
                              · obtain ⟨-, -, -, -, us, hru, hlv, hbu⟩ := Hrs.out.open'
                                obtain ⟨u, hu, hbu⟩ := hbu j hjr
                                rw [← hlj] at hbu
                                obtain ⟨ar, cr, rfl, -⟩ := id hbu
                                obtain ⟨b1, o1, rfl, hc⟩ := hru.at (by rintro rfl; rw [List.length_nil] at hlv; omega)
                                have hcr : ∀ w, St W.heap.size W w (X * R8) → w.cell? ⟨b1, o1 + j, none⟩ = some (.slice ar lj.length cr) := fun w s => Add.cell s.below (hc j _ hu)
                                have hbr2 : ∀ w, St W.heap.size W w (X * R8) → BS w (.slice ar lj.length cr) lj := fun w s => hbu.below s.below
                                have t4 : (j : Int) < (rs.length : Int) := by omega
                                have t5 : (j : Int) < 10 := by omega
                                have t6 : ¬ (k : Int) ≤ (j : Int) := by omega
                                have Hcr := Lib.hid hcr
                                have Hbr2 := Lib.hid hbr2
                                clear hcr hbr2
                                clear hru hlv hbu hu hc hlj
                                go_wp2_with fail
                                refine wp_region_rx (fun _ w' => St W.heap.size W w' (X * R8)) [] mixed (by kernel_rfl) (by kernel_rfl) S19.out.drew ?_
                                refine RXl.exact (.int .i64 j) rfl rfl rfl rfl rfl (fun _ _ _ _ _ => rfl) ?_
                                refine RXl.exact (.slice (some ⟨b1, o1, none⟩) rs.length ca) rfl rfl rfl rfl rfl (fun _ _ _ _ _ => rfl) ?_
                                refine RXl.exact (.int .i64 rs.length) rfl rfl rfl rfl rfl (fun j τ w' hj hJ => by simp [rho, upd, Spec.val, execOp, go_sem, resolve, invoke, builtin]) ?_
                                refine RXl.exact (.bool true) rfl rfl rfl rfl rfl (fun j τ w' hj hJ => by simp [rho, upd, Spec.val, execOp, go_sem, t4]) ?_
                                refine RXl.exact (.bool true) rfl rfl rfl rfl rfl (fun _ _ _ _ _ => rfl) ?_
                                refine RXl.exact (.int .i64 j) rfl rfl rfl rfl rfl (fun _ _ _ _ _ => rfl) ?_
                                refine RXl.exact (.bool true) rfl rfl rfl rfl rfl (fun j τ w' hj hJ => by simp [rho, upd, Spec.val, execOp, go_sem, t5]) ?_
                                refine RXl.exact (.bool true) rfl rfl rfl rfl rfl (fun _ _ _ _ _ => rfl) ?_
                                refine RXl.exact (.bool true) rfl rfl rfl rfl rfl (fun _ _ _ _ _ => rfl) ?_
                                refine RXl.exact (.slice (some ⟨bg, og, none⟩) Ls.length c5) rfl rfl rfl rfl rfl (fun _ _ _ _ _ => rfl) ?_
                                refine RXl.exact (.int .i64 j) rfl rfl rfl rfl rfl (fun _ _ _ _ _ => rfl) ?_
                                refine RXl.exact (.pointer (some ⟨bg, og + j, none⟩)) rfl rfl rfl rfl rfl (fun j τ w' hj hJ => by simp [rho, upd, Spec.val, execOp, go_sem, t3]) ?_
                                refine RXl.exact (.slice aj lj.length cj) rfl rfl rfl rfl rfl (fun j τ w' hj hJ => by have c := Hcg.out _ hJ; simp [rho, upd, Spec.val, execOp, go_sem, c]) ?_
                                refine RXl.exact (str lj) rfl rfl rfl rfl rfl (fun j τ w' hj hJ => exec_convert rfl (run_str Try.underlying23 Try.underlying5 Try.underlying9 (Hbg.out _ hJ))) ?_
                                refine RXl.exact (.slice (some ⟨b1, o1, none⟩) rs.length ca) rfl rfl rfl rfl rfl (fun _ _ _ _ _ => rfl) ?_
                                refine RXl.exact (.int .i64 j) rfl rfl rfl rfl rfl (fun _ _ _ _ _ => rfl) ?_
                                refine RXl.exact (.pointer (some ⟨b1, o1 + j, none⟩)) rfl rfl rfl rfl rfl (fun j τ w' hj hJ => by simp [rho, upd, Spec.val, execOp, go_sem, t4]) ?_
                                refine RXl.exact (.slice ar lj.length cr) rfl rfl rfl rfl rfl (fun j τ w' hj hJ => by have c := Hcr.out _ hJ; simp [rho, upd, Spec.val, execOp, go_sem, c]) ?_
                                refine RXl.exact (str lj) rfl rfl rfl rfl rfl (fun j τ w' hj hJ => exec_convert rfl (run_str Try.underlying23 Try.underlying5 Try.underlying9 (Hbr2.out _ hJ))) ?_
                                refine RXl.exact (.bool false) rfl rfl rfl rfl rfl (fun j τ w' hj hJ => by simp [rho, upd, Spec.val, execOp, go_sem]) ?_
                                refine RXl.exact (.bool false) rfl rfl rfl rfl rfl (fun _ _ _ _ _ => rfl) ?_
                                refine RXl.exact (.bool false) rfl rfl rfl rfl rfl (fun _ _ _ _ _ => rfl) ?_
                                refine RXl.exact (.int .i64 j) rfl rfl rfl rfl rfl (fun _ _ _ _ _ => rfl) ?_
                                refine RXl.exact (.slice (some ⟨b1, o1, none⟩) rs.length ca) rfl rfl rfl rfl rfl (fun _ _ _ _ _ => rfl) ?_
                                refine RXl.exact (.int .i64 rs.length) rfl rfl rfl rfl rfl (fun j τ w' hj hJ => by simp [rho, upd, Spec.val, execOp, go_sem, resolve, invoke, builtin]) ?_
                                refine RXl.exact (.int .i64 k) rfl rfl rfl rfl rfl (fun j τ w' hj hJ => by simp [rho, upd, Spec.val, execOp, go_sem, resolve, invoke, builtin, Hmi.out]) ?_
                                refine RXl.exact (.bool false) rfl rfl rfl rfl rfl (fun j τ w' hj hJ => by simp [rho, upd, Spec.val, execOp, go_sem]; exact hjk) ?_
                                refine RXl.exact (.bool false) rfl rfl rfl rfl rfl (fun _ _ _ _ _ => rfl) ?_
                                refine RXl.skip rfl rfl rfl rfl ?_
                                refine RXl.skip rfl rfl rfl rfl ?_
                                refine RXl.skip rfl rfl rfl rfl ?_
                                refine RXl.skip rfl rfl rfl rfl ?_
                                refine RXl.skip rfl rfl rfl rfl ?_
                                refine RXl.skip rfl rfl rfl rfl ?_
                                refine RXl.skip rfl rfl rfl rfl ?_
                                refine RXl.skip rfl rfl rfl rfl ?_
                                refine RXl.exact (.bool false) rfl rfl rfl rfl rfl (fun _ _ _ _ _ => rfl) ?_
                                refine RXl.exact (.bool false) rfl rfl rfl rfl rfl (fun _ _ _ _ _ => rfl) ?_
                                refine RXl.nilx _ (Agr.upd _ _ (Agr.upd _ _ (Agr.upd _ _ (Agr.upd _ _ (Agr.upd _ _ (Agr.upd _ _ (Agr.upd _ _ (Agr.upd _ _ (Agr.upd _ _ (Agr.upd _ _ (Agr.upd _ _ (Agr.upd _ _ (Agr.upd _ _ (Agr.upd _ _ (Agr.upd _ _ (Agr.upd _ _ (Agr.upd _ _ (Agr.upd _ _ (Agr.upd _ _ (Agr.upd _ _ (Agr.upd _ _ (Agr.upd _ _ (Agr.upd _ _ (Agr.upd _ _ (Agr.upd _ _ (Agr.upd _ _ (Agr.upd _ _ (Agr.upd _ _ (Agr.upd _ _ (Agr.upd _ _ (Agr.upd _ _ (Agr.upd _ _ (Agr.upd _ _ (Agr.upd _ _ (Agr.upd _ _ (Agr.upd _ _ (Agr.upd _ _ (Agr.upd _ _ (Agr.base _))))))))))))))))))))))))))))))))))))))) fun w22 hJ => ?_
                                obtain ⟨_, hJ⟩ := hJ
                                simp only [Act.put, List.setIfInBounds_toArray, List.set_cons_succ, List.set_cons_zero]
                                have S20 := Lib.hid (show St W.heap.size W w22 (X * R8) from hJ)
                                clear hJ S19
                                go_wp2_with fail
                                go_roundw
                                case rel => exact ⟨j + 1, by omega, by go_num, S20.out⟩
                                case measure => simp [intOf]; omega
                              · have t7 : (k : Int) ≤ (j : Int) := by omega
                                have hbr2 : ∀ w, St W.heap.size W w (X * R8) → BS w (.slice a1 r.length c1) r := fun w s => Hr.out.st rfl s
                                have Hbr2 := Lib.hid hbr2
                                have Hlj := Lib.hid hlj
                                clear hbr2 hlj
                                go_wp2_with fail
                                refine wp_region_rx (fun _ w' => St W.heap.size W w' (X * R8)) [] mixed (by kernel_rfl) (by kernel_rfl) S19.out.drew ?_
                                refine RXl.exact (.int .i64 j) rfl rfl rfl rfl rfl (fun _ _ _ _ _ => rfl) ?_
                                refine RXl.exact (.slice a rs.length ca) rfl rfl rfl rfl rfl (fun _ _ _ _ _ => rfl) ?_
                                refine RXl.exact (.int .i64 rs.length) rfl rfl rfl rfl rfl (fun j τ w' hj hJ => by simp [rho, upd, Spec.val, execOp, go_sem, resolve, invoke, builtin]) ?_
                                refine RXl.exact (.bool false) rfl rfl rfl rfl rfl (fun j τ w' hj hJ => by simp [rho, upd, Spec.val, execOp, go_sem] <;> omega) ?_
                                refine RXl.exact (.bool false) rfl rfl rfl rfl rfl (fun _ _ _ _ _ => rfl) ?_
                                refine RXl.skip rfl rfl rfl rfl ?_
                                refine RXl.skip rfl rfl rfl rfl ?_
                                refine RXl.exact (.bool false) rfl rfl rfl rfl rfl (fun _ _ _ _ _ => rfl) ?_
                                refine RXl.exact (.bool false) rfl rfl rfl rfl rfl (fun _ _ _ _ _ => rfl) ?_
                                refine RXl.skip rfl rfl rfl rfl ?_
                                refine RXl.skip rfl rfl rfl rfl ?_
                                refine RXl.skip rfl rfl rfl rfl ?_
                                refine RXl.skip rfl rfl rfl rfl ?_
                                refine RXl.skip rfl rfl rfl rfl ?_
                                refine RXl.skip rfl rfl rfl rfl ?_
                                refine RXl.skip rfl rfl rfl rfl ?_
                                refine RXl.skip rfl rfl rfl rfl ?_
                                refine RXl.skip rfl rfl rfl rfl ?_
                                refine RXl.skip rfl rfl rfl rfl ?_
                                refine RXl.skip rfl rfl rfl rfl ?_
                                refine RXl.exact (.bool false) rfl rfl rfl rfl rfl (fun _ _ _ _ _ => rfl) ?_
                                refine RXl.exact (.bool false) rfl rfl rfl rfl rfl (fun _ _ _ _ _ => rfl) ?_
                                refine RXl.exact (.int .i64 j) rfl rfl rfl rfl rfl (fun _ _ _ _ _ => rfl) ?_
                                refine RXl.exact (.slice a rs.length ca) rfl rfl rfl rfl rfl (fun _ _ _ _ _ => rfl) ?_
                                refine RXl.exact (.int .i64 rs.length) rfl rfl rfl rfl rfl (fun j τ w' hj hJ => by simp [rho, upd, Spec.val, execOp, go_sem, resolve, invoke, builtin]) ?_
                                refine RXl.exact (.int .i64 k) rfl rfl rfl rfl rfl (fun j τ w' hj hJ => by simp [rho, upd, Spec.val, execOp, go_sem, resolve, invoke, builtin, Hmi.out]) ?_
                                refine RXl.exact (.bool true) rfl rfl rfl rfl rfl (fun j τ w' hj hJ => by simp [rho, upd, Spec.val, execOp, go_sem] <;> omega) ?_
                                refine RXl.exact (.bool true) rfl rfl rfl rfl rfl (fun _ _ _ _ _ => rfl) ?_
                                refine RXl.exact (.slice (some ⟨bg, og, none⟩) Ls.length c5) rfl rfl rfl rfl rfl (fun _ _ _ _ _ => rfl) ?_
                                refine RXl.exact (.int .i64 j) rfl rfl rfl rfl rfl (fun _ _ _ _ _ => rfl) ?_
                                refine RXl.exact (.pointer (some ⟨bg, og + j, none⟩)) rfl rfl rfl rfl rfl (fun j τ w' hj hJ => by simp [rho, upd, Spec.val, execOp, go_sem, t3]) ?_
                                refine RXl.exact (.slice aj lj.length cj) rfl rfl rfl rfl rfl (fun j τ w' hj hJ => by have c := Hcg.out _ hJ; simp [rho, upd, Spec.val, execOp, go_sem, c]) ?_
                                refine RXl.exact (str lj) rfl rfl rfl rfl rfl (fun j τ w' hj hJ => exec_convert rfl (run_str Try.underlying23 Try.underlying5 Try.underlying9 (Hbg.out _ hJ))) ?_
                                refine RXl.exact (.slice a1 r.length c1) rfl rfl rfl rfl rfl (fun _ _ _ _ _ => rfl) ?_
                                refine RXl.exact (str lj) rfl rfl rfl rfl rfl (fun j τ w' hj hJ => by rw [Hlj.out]; exact exec_convert rfl (run_str Try.underlying23 Try.underlying5 Try.underlying9 (Hbr2.out _ hJ))) ?_
                                refine RXl.exact (.bool false) rfl rfl rfl rfl rfl (fun j τ w' hj hJ => by simp [rho, upd, Spec.val, execOp, go_sem]) ?_
                                refine RXl.exact (.bool false) rfl rfl rfl rfl rfl (fun _ _ _ _ _ => rfl) ?_
                                refine RXl.exact (.bool false) rfl rfl rfl rfl rfl (fun _ _ _ _ _ => rfl) ?_
                                refine RXl.nilx _ (Agr.upd _ _ (Agr.upd _ _ (Agr.upd _ _ (Agr.upd _ _ (Agr.upd _ _ (Agr.upd _ _ (Agr.upd _ _ (Agr.upd _ _ (Agr.upd _ _ (Agr.upd _ _ (Agr.upd _ _ (Agr.upd _ _ (Agr.upd _ _ (Agr.upd _ _ (Agr.upd _ _ (Agr.upd _ _ (Agr.upd _ _ (Agr.upd _ _ (Agr.upd _ _ (Agr.upd _ _ (Agr.upd _ _ (Agr.upd _ _ (Agr.upd _ _ (Agr.upd _ _ (Agr.upd _ _ (Agr.upd _ _ (Agr.upd _ _ (Agr.upd _ _ (Agr.upd _ _ (Agr.upd _ _ (Agr.upd _ _ (Agr.upd _ _ (Agr.upd _ _ (Agr.upd _ _ (Agr.upd _ _ (Agr.upd _ _ (Agr.upd _ _ (Agr.upd _ _ (Agr.base _))))))))))))))))))))))))))))))))))))))) fun w22 hJ => ?_
                                obtain ⟨_, hJ⟩ := hJ
                                simp only [Act.put, List.setIfInBounds_toArray, List.set_cons_succ, List.set_cons_zero]
                                have S20 := Lib.hid (show St W.heap.size W w22 (X * R8) from hJ)
                                clear hJ S19
                                go_wp2_with fail
                                go_roundw
                                case rel => exact ⟨j + 1, by omega, by go_num, S20.out⟩
                                case measure => simp [intOf]; omega
                            · obtain rfl : j = Ls.length := by omega
                              have S19 := Lib.hid s19
                              clear s19
                              go_wp2_with fail
                              refine (awake_calls _).mono ?_
                              rintro e w20 ⟨rfl, h2⟩
                              have HA := Lib.hid (S19.out.keep h2)
                              clear h2 S19
                              go_wp2_with fail
                              go_ret
                              exact ⟨rfl, HA.out.below⟩
        · skip
          go_wp2_with fail
          refine (tapes_calls b p0 p1 p2 k _ (R := tps (some ⟨fb, 0, none⟩) [p0, p1, p2] (prs L r m0 m1 m2 0) * (fz (.pointer (some ⟨fb, 0, none⟩)) (some (Fu.new 0)) * Y0)) (S8.out.eq (by rw [trx_eq]; ac_rfl))).mono ?_
          rintro e w9 ⟨rfl, s9⟩
          have s9a := s9.alloc (.cells #[pp p0, pp p1, pp p2] 43)
          have S9 := Lib.hid s9a
          clear s9 s9a S8
          have hx : Value.int .u8 (r.length : Int) = bv (UInt8.ofNat r.length) := by
            have := Hor.out.2
            show Value.int .u8 (r.length : Int) = .int .u8 ((UInt8.ofNat r.length).toNat : Int)
            rw [UInt8.toNat_ofNat', Nat.mod_eq_of_lt (by omega)]
          have s10 := (S9.out.alloc (.cells #[.int .u8 (r.length : Int)] 5)).rowMk (e := 5) (size := 1) (n := 1) (cap := 1) (xs := bvs [UInt8.ofNat r.length]) (by omega) (by unfold maxLen; omega) (by simp) (by rw [hx]; simp [bvs])
          rw [show (w9.alloc (.cells #[pp p0, pp p1, pp p2] 43)).heap.size = w9.heap.size + 1 by simp] at s10
          have S10 := Lib.hid s10
          have hb10 := Lib.hid (Hr.out.st rfl s10)
          clear s10 hx S9
          have hjn : [UInt8.ofNat r.length] ++ r = jn1 r := rfl
          have Hjn := Lib.hid hjn
          clear hjn
          go_wp2_with (at_builtin; go_must (refine wpl_appendB rfl _ _ rfl tB S10.out a1 r.length c1 hb10.out rfl rfl (by simp; omega) ?_); intro a2 c2 w10 s10; rw [Hjn.out] at s10; rw [Hjn.out]; have S11 := Lib.hid s10; clear s10 S10 hb10)
          obtain ⟨nb, hnb⟩ : ∃ nb, nb = (jn1 r).length := ⟨_, rfl⟩
          have hnb2 : nb ≤ 251 := by have := Hor.out.2; rw [hnb, jn1_len]; omega
          rw [← hnb]
          have s11 := S11.out
          rw [← hnb] at s11
          have S12 := Lib.hid (s11.eq (Q := tps (some ⟨fb, 0, none⟩) [p0, p1, p2] (prs L r m0 m1 m2 0) * (fz (.pointer (some ⟨fb, 0, none⟩)) (some (Fu.new 0)) * (row 5 1 (.slice a2 nb c2) nb (bvs (jn1 r)) * (pts w9.heap.size (.cells #[pp p0, pp p1, pp p2] 43) * (tro b p0 p1 p2 k * Y0))))) (by ac_rfl))
          generalize w9.heap.size = gl at *
          have Hnb := Lib.hid hnb
          clear hnb
          clear s11 S11
          go_loopw [16, 17] (fun v16 i wr => ∃ j : Nat, j ≤ 3 ∧ v16 = .int .i64 (wh nb m0 m1 m2 j : Nat) ∧ i = .int .i64 j ∧ St W.heap.size W wr (tps (some ⟨fb, 0, none⟩) [p0, p1, p2] (prs L r m0 m1 m2 j) * (fz (.pointer (some ⟨fb, 0, none⟩)) (some (Fu.new 0)) * (row 5 1 (.slice a2 nb c2) nb (bvs (jn1 r)) * (pts gl (.cells #[pp p0, pp p1, pp p2] 43) * (tro b p0 p1 p2 k * Y0)))))) (fun _ i _ => 3 - (intOf i).toNat)
          case atStart => exact ⟨0, Nat.zero_le _, rfl, rfl, S12.out⟩
          case round =>
            obtain ⟨j, hj, rfl, rfl, s12⟩ := hrel
            clear S12
            by_cases hjt : j < 3
            · have hjI : (j : Int) < 3 := by omega
              obtain ⟨pj, hpj⟩ : ∃ z, [p0, p1, p2].getD j 0 = z := ⟨_, rfl⟩
              obtain ⟨nj, hnj⟩ : ∃ z, [n0, n1, n2].getD j 0 = z := ⟨_, rfl⟩
              obtain ⟨mj, hmj⟩ : ∃ z, [m0, m1, m2].getD j 0 = z := ⟨_, rfl⟩
              obtain ⟨yj, hyj, htj, hmjl⟩ : ∃ yj : Nat, nj % 65536 = (yj : Int) ∧ Int.tmod (yj : Int) ((nb : Int) + 1) = (mj : Int) ∧ mj ≤ nb := by
                rw [← hnj, ← hmj, Hnb.out]
                obtain rfl | rfl | rfl : j = 0 ∨ j = 1 ∨ j = 2 := by omega
                · exact ⟨y0, Hy0.out, Hm0'.out, Hm0l.out⟩
                · exact ⟨y1, Hy1.out, Hm1'.out, Hm1l.out⟩
                · exact ⟨y2, Hy2.out, Hm2'.out, Hm2l.out⟩
              have hand := and_m16 nj
              rw [hyj] at hand
              have hz0 : ((nb : Int) + 1 == 0) = false := by rw [beq_eq_false_iff_ne]; omega
              have hws := wh_step nb m0 m1 m2 j hjt
              rw [hmj] at hws
              have hwl := wh_le nb m0 m1 m2 j
              have hgl := fun (i : Nat) (w : World) (s : St W.heap.size W w (tps (some ⟨fb, 0, none⟩) [p0, p1, p2] (PT3 L r m0 m1 m2 j i) * (fz (.pointer (some ⟨fb, 0, none⟩)) (some (Fu.new 0)) * (row 5 1 (.slice a2 nb c2) nb (bvs (jn1 r)) * (pts gl (.cells #[pp p0, pp p1, pp p2] 43) * (tro b p0 p1 p2 k * Y0)))))) => (show w.cell? ⟨gl, j, none⟩ = some (pp pj) by
                have s2 := s.right.right.right
                rw [← hpj]
                obtain rfl | rfl | rfl : j = 0 ∨ j = 1 ∨ j = 2 := by omega
                · exact s2.cell 0
                · exact s2.cell 1
                · exact s2.cell 2)
              have c1w := hgl 0 wr s12
              have c2w : wr.cell? ⟨W.heap.size, j, none⟩ = some (.int .i64 nj) := by
                have s2 := s12.right.right.right.right.right
                rw [← HY.out] at s2
                have s3 := s2.right
                rw [← hnj]
                obtain rfl | rfl | rfl : j = 0 ∨ j = 1 ∨ j = 2 := by omega
                · exact s3.cell 0
                · exact s3.cell 1
                · exact s3.cell 2
              have hq1 := fun (w : World) (s : St W.heap.size W w (tps (some ⟨fb, 0, none⟩) [p0, p1, p2] (prs L r m0 m1 m2 j) * (fz (.pointer (some ⟨fb, 0, none⟩)) (some (Fu.new 0)) * (row 5 1 (.slice a2 nb c2) nb (bvs (jn1 r)) * (pts gl (.cells #[pp p0, pp p1, pp p2] 43) * (tro b p0 p1 p2 k * Y0)))))) =>
                tap_calls (some ⟨fb, 0, none⟩) [p0, p1, p2] (prs L r m0 m1 m2 j) j (some (Fu.new 0)) ((jn1 r).take mj) a2 mj c2 (by omega) (by simpa using hjt) (by rw [prs_len]; exact hjt) w (reads_right _ (reads_front mj (by rw [← Hnb.out]; exact hmjl))) s
              have hlj : (jn L).length + ((jn1 r).take mj).length ≤ 65536 := by rw [List.length_take]; have := Hnb.out; omega
              rw [prs_get _ _ _ _ _ _ hjt, tapp_und und_zero _ _ hlj, hpj] at hq1
              have hq2 := fun (w : World) (s : St W.heap.size W w (tps (some ⟨fb, 0, none⟩) [p0, p1, p2] ((prs L r m0 m1 m2 j).set j ⟨jn L ++ (jn1 r).take mj, ((jn1 r).take mj).length, false⟩) * (fz (.pointer (some ⟨fb, 0, none⟩)) (some (Fu.new 0)) * (row 5 1 (.slice a2 nb c2) nb (bvs (jn1 r)) * (pts gl (.cells #[pp p0, pp p1, pp p2] 43) * (tro b p0 p1 p2 k * Y0)))))) =>
                tsy_calls (some ⟨fb, 0, none⟩) [p0, p1, p2] _ j (some (Fu.new 0)) (by simpa using hjt) (by rw [List.length_set, prs_len]; exact hjt) w s
              rw [prs_set_get _ _ _ _ _ _ hjt, tsync_und und_zero, hpj] at hq2
              have hps := prs_set L r m0 m1 m2 j hjt ⟨jn L ++ (jn1 r).take mj, ((jn1 r).take mj).length, false⟩
              rw [hmj] at hps
              rw [hps] at hq2
              have hPT1 : PT3 L r m0 m1 m2 j 1 = (prs L r m0 m1 m2 j).set j ⟨jn L ++ (jn1 r).take mj, ((jn1 r).take mj).length, false⟩ := by unfold PT3; rw [hmj]; simp
              rw [← hPT1] at hq1 hq2
              have hmc : (mj : Int) ≤ (nb : Int) := by omega
              obtain ⟨_, _, hcq, hnc, -, -, -⟩ := (s12.eq (Q := row 5 1 (.slice a2 nb c2) nb (bvs (jn1 r)) * (tps (some ⟨fb, 0, none⟩) [p0, p1, p2] (prs L r m0 m1 m2 j) * (fz (.pointer (some ⟨fb, 0, none⟩)) (some (Fu.new 0)) * (pts gl (.cells #[pp p0, pp p1, pp p2] 43) * (tro b p0 p1 p2 k * Y0))))) (by ac_rfl)).rowSlice
              cases hcq
              have hmc2 : mj ≤ c2 := by omega
              have S12 := Lib.hid s12
              have Hgl := Lib.hid hgl
              have Hq1 := Lib.hid hq1
              have Hq2 := Lib.hid hq2
              clear hgl hq1 hq2
              clear s12 hpj hnj hmj hyj hps hPT1 hlj
              by_cases hmn : mj = nb
              · have e1 : ((mj : Int) == (nb : Int)) = true := by rw [beq_iff_eq]; omega
                rw [if_pos hmn] at hws
                have Hws := Lib.hid hws
                have Hmn := Lib.hid hmn
                clear hws hmn
                go_wp2_with fail
                refine wp_region_rx (fun i w => St W.heap.size W w (tps (some ⟨fb, 0, none⟩) [p0, p1, p2] (PT3 L r m0 m1 m2 j i) * (fz (.pointer (some ⟨fb, 0, none⟩)) (some (Fu.new 0)) * (row 5 1 (.slice a2 nb c2) nb (bvs (jn1 r)) * (pts gl (.cells #[pp p0, pp p1, pp p2] 43) * (tro b p0 p1 p2 k * Y0)))))) [6, 12] mixed (by kernel_rfl) (by kernel_rfl) S12.out.drew ?_
                refine RXl.exact (.int .i64 j) rfl rfl rfl rfl rfl (fun _ _ _ _ _ => rfl) ?_
                refine RXl.exact (.pointer (some ⟨gl, j, none⟩)) rfl rfl rfl rfl rfl (fun j τ w' hj hJ => by simp [rho, upd, Spec.val, execOp, go_sem, hjI]) ?_
                refine RXl.exact (pp pj) rfl rfl rfl rfl rfl (fun j τ w' hj hJ => by have c := Hgl.out _ _ hJ; simp [rho, upd, Spec.val, execOp, go_sem, c]) ?_
                refine RXl.exact (.slice a2 nb c2) rfl rfl rfl rfl rfl (fun _ _ _ _ _ => rfl) ?_
                refine RXl.exact (.int .i64 mj) rfl rfl rfl rfl rfl (fun _ _ _ _ _ => rfl) ?_
                refine RXl.exact (.slice a2 mj c2) rfl rfl rfl rfl rfl (fun j τ w' hj hJ => by simp [rho, upd, Spec.val, execOp, go_sem, hmc, hmc2]) ?_
                refine RXl.callj 0 (.int .i64 0) _ [pp pj, .slice a2 mj c2] [.tmp 121, .tmp 124] _ rfl rfl rfl rfl rfl rfl (fun _ => rfl) (fun w' hJ => Hq1.out w' hJ) ?_
                refine RXl.exact (.bool false) rfl rfl rfl rfl rfl (fun j τ w' hj hJ => by simp [rho, upd, Spec.val, execOp, go_sem]) ?_
                refine RXl.exact (.bool false) rfl rfl rfl rfl rfl (fun _ _ _ _ _ => rfl) ?_
                refine RXl.exact (.int .i64 j) rfl rfl rfl rfl rfl (fun _ _ _ _ _ => rfl) ?_
                refine RXl.exact (.pointer (some ⟨gl, j, none⟩)) rfl rfl rfl rfl rfl (fun j τ w' hj hJ => by simp [rho, upd, Spec.val, execOp, go_sem, hjI]) ?_
                refine RXl.exact (pp pj) rfl rfl rfl rfl rfl (fun j τ w' hj hJ => by have c := Hgl.out _ _ hJ; simp [rho, upd, Spec.val, execOp, go_sem, c]) ?_
                refine RXl.callj 1 (.int .i64 0) _ [pp pj] [.tmp 130] _ rfl rfl rfl rfl rfl rfl (fun _ => rfl) (fun w' hJ => Hq2.out w' hJ) ?_
                refine RXl.exact (.bool false) rfl rfl rfl rfl rfl (fun j τ w' hj hJ => by simp [rho, upd, Spec.val, execOp, go_sem]) ?_
                refine RXl.exact (.bool false) rfl rfl rfl rfl rfl (fun _ _ _ _ _ => rfl) ?_
                refine RXl.nilx _ (Agr.upd _ _ (Agr.upd _ _ (Agr.upd _ _ (Agr.upd _ _ (Agr.upd _ _ (Agr.upd _ _ (Agr.upd _ _ (Agr.upd _ _ (Agr.upd _ _ (Agr.upd _ _ (Agr.upd _ _ (Agr.upd _ _ (Agr.upd _ _ (Agr.upd _ _ (Agr.upd _ _ (Agr.base _)))))))))))))))) fun w13 hJ => ?_
                obtain ⟨_, hJ⟩ := hJ
                simp only [Act.put, List.setIfInBounds_toArray, List.set_cons_succ, List.set_cons_zero]
                have S13 := Lib.hid (show St W.heap.size W w13 (tps (some ⟨fb, 0, none⟩) [p0, p1, p2] (prs L r m0 m1 m2 (j + 1)) * (fz (.pointer (some ⟨fb, 0, none⟩)) (some (Fu.new 0)) * (row 5 1 (.slice a2 nb c2) nb (bvs (jn1 r)) * (pts gl (.cells #[pp p0, pp p1, pp p2] 43) * (tro b p0 p1 p2 k * Y0))))) from hJ)
                clear hJ S12 Hgl Hq1 Hq2 c1w c2w
                go_wp2_with fail
                go_roundw
                case rel => exact ⟨j + 1, by omega, by rw [Hws.out]; go_num, by go_num, S13.out⟩
                case measure => simp [intOf]; omega
              · have e1 : ((mj : Int) == (nb : Int)) = false := by rw [beq_eq_false_iff_ne]; omega
                rw [if_neg hmn, Nat.add_zero] at hws
                have Hws := Lib.hid hws
                clear hws
                go_wp2_with fail
                refine wp_region_rx (fun i w => St W.heap.size W w (tps (some ⟨fb, 0, none⟩) [p0, p1, p2] (PT3 L r m0 m1 m2 j i) * (fz (.pointer (some ⟨fb, 0, none⟩)) (some (Fu.new 0)) * (row 5 1 (.slice a2 nb c2) nb (bvs (jn1 r)) * (pts gl (.cells #[pp p0, pp p1, pp p2] 43) * (tro b p0 p1 p2 k * Y0)))))) [6, 12] mixed (by kernel_rfl) (by kernel_rfl) S12.out.drew ?_
                refine RXl.exact (.int .i64 j) rfl rfl rfl rfl rfl (fun _ _ _ _ _ => rfl) ?_
                refine RXl.exact (.pointer (some ⟨gl, j, none⟩)) rfl rfl rfl rfl rfl (fun j τ w' hj hJ => by simp [rho, upd, Spec.val, execOp, go_sem, hjI]) ?_
                refine RXl.exact (pp pj) rfl rfl rfl rfl rfl (fun j τ w' hj hJ => by have c := Hgl.out _ _ hJ; simp [rho, upd, Spec.val, execOp, go_sem, c]) ?_
                refine RXl.exact (.slice a2 nb c2) rfl rfl rfl rfl rfl (fun _ _ _ _ _ => rfl) ?_
                refine RXl.exact (.int .i64 mj) rfl rfl rfl rfl rfl (fun _ _ _ _ _ => rfl) ?_
                refine RXl.exact (.slice a2 mj c2) rfl rfl rfl rfl rfl (fun j τ w' hj hJ => by simp [rho, upd, Spec.val, execOp, go_sem, hmc, hmc2]) ?_
                refine RXl.callj 0 (.int .i64 0) _ [pp pj, .slice a2 mj c2] [.tmp 121, .tmp 124] _ rfl rfl rfl rfl rfl rfl (fun _ => rfl) (fun w' hJ => Hq1.out w' hJ) ?_
                refine RXl.exact (.bool false) rfl rfl rfl rfl rfl (fun j τ w' hj hJ => by simp [rho, upd, Spec.val, execOp, go_sem]) ?_
                refine RXl.exact (.bool false) rfl rfl rfl rfl rfl (fun _ _ _ _ _ => rfl) ?_
                refine RXl.exact (.int .i64 j) rfl rfl rfl rfl rfl (fun _ _ _ _ _ => rfl) ?_
                refine RXl.exact (.pointer (some ⟨gl, j, none⟩)) rfl rfl rfl rfl rfl (fun j τ w' hj hJ => by simp [rho, upd, Spec.val, execOp, go_sem, hjI]) ?_
                refine RXl.exact (pp pj) rfl rfl rfl rfl rfl (fun j τ w' hj hJ => by have c := Hgl.out _ _ hJ; simp [rho, upd, Spec.val, execOp, go_sem, c]) ?_
                refine RXl.callj 1 (.int .i64 0) _ [pp pj] [.tmp 130] _ rfl rfl rfl rfl rfl rfl (fun _ => rfl) (fun w' hJ => Hq2.out w' hJ) ?_
                refine RXl.exact (.bool false) rfl rfl rfl rfl rfl (fun j τ w' hj hJ => by simp [rho, upd, Spec.val, execOp, go_sem]) ?_
                refine RXl.exact (.bool false) rfl rfl rfl rfl rfl (fun _ _ _ _ _ => rfl) ?_
                refine RXl.nilx _ (Agr.upd _ _ (Agr.upd _ _ (Agr.upd _ _ (Agr.upd _ _ (Agr.upd _ _ (Agr.upd _ _ (Agr.upd _ _ (Agr.upd _ _ (Agr.upd _ _ (Agr.upd _ _ (Agr.upd _ _ (Agr.upd _ _ (Agr.upd _ _ (Agr.upd _ _ (Agr.upd _ _ (Agr.base _)))))))))))))))) fun w13 hJ => ?_
                obtain ⟨_, hJ⟩ := hJ
                simp only [Act.put, List.setIfInBounds_toArray, List.set_cons_succ, List.set_cons_zero]
                have S13 := Lib.hid (show St W.heap.size W w13 (tps (some ⟨fb, 0, none⟩) [p0, p1, p2] (prs L r m0 m1 m2 (j + 1)) * (fz (.pointer (some ⟨fb, 0, none⟩)) (some (Fu.new 0)) * (row 5 1 (.slice a2 nb c2) nb (bvs (jn1 r)) * (pts gl (.cells #[pp p0, pp p1, pp p2] 43) * (tro b p0 p1 p2 k * Y0))))) from hJ)
                clear hJ S12 Hgl Hq1 Hq2 c1w c2w
                go_wp2_with fail
                go_roundw
                case rel => exact ⟨j + 1, by omega, by rw [Hws.out]; go_num, by go_num, S13.out⟩
                case measure => simp [intOf]; omega
            · obtain rfl : j = 3 := by omega
              rw [show ((3 : Nat) : Int) = (3 : Int) from rfl]
              have hiv := prs_iv L r m0 m1 m2 Hm0l.out Hm1l.out Hm2l.out
              have hty := prs_ty L r m0 m1 m2
              rw [← Hnb.out] at hiv
              generalize prs L r m0 m1 m2 3 = Ts at *
              generalize wh nb m0 m1 m2 3 = wn at *
              have S14 := Lib.hid s12
              have Hiv := Lib.hid hiv
              have Hty := Lib.hid hty
              clear hiv hty
              clear s12
              by_cases hw2 : 2 ≤ wn
              · have hwI : (2 : Int) ≤ (wn : Int) := by omega
                have Hwt := Lib.hid (show ((L ++ tl true r).length : Int) = (11 : Int) by rw [lt_len, HlL.out]; (first | omega | (simp; omega) | (simp; done)))
                have hiv2 := Hiv.out
                rw [decide_eq_true hw2] at hiv2
                clear Hiv
                have Hiv := Lib.hid hiv2
                clear hiv2
                go_wp2_with fail
                as_aux_lemma =>
                  go_loopw [20] (fun i wr => ∃ (q : Nat) (Ts : List Tp) (F : Fu) (Z : HP), q ≤ fs.length ∧ q ≤ 6 ∧ i = .int .i64 q ∧ Iv L r true Ts ∧ (∀ i, i < 3 → TY L r (Ts.getD i Tp.new)) ∧ St W.heap.size W wr (tps (some ⟨fb, 0, none⟩) [p0, p1, p2] Ts * (fz (.pointer (some ⟨fb, 0, none⟩)) (some F) * (pts gl (.cells #[pp p0, pp p1, pp p2] 43 (0, 0)) * (pts (W.heap.size + 1) (.cells #[.int .i64 q0, .int .i64 q1, .int .i64 q2] 34 (0, 0)) * Z))))) (fun i _ => 6 - (intOf i).toNat)
                  case atStart => exact ⟨0, Ts, Fu.new 0, row 5 1 (.slice a2 nb c2) nb (bvs (jn1 r)) * (tro b p0 p1 p2 k * (pts W.heap.size (.cells #[.int .i64 n0, .int .i64 n1, .int .i64 n2] 34 (0, 0)) * emp)), Nat.zero_le _, by omega, rfl, Hiv.out, Hty.out, S14.out.eq (by rw [← HY.out]; ac_rfl)⟩
                  case round =>
                    obtain ⟨q, Ts3, F3, Z, hq, hq6, rfl, hiv3, hty3, s15⟩ := hrel
                    clear S14 Hiv Hty
                    have hT3 : Ts3.length = 3 := by obtain ⟨_, _, _, rfl, -⟩ := hiv3; rfl
                    have hjL : (jn L).length + (jn1 r).length ≤ 65536 := by have := Hnb.out; omega
                    by_cases hqt : q < fs.length ∧ q < 6
                    · obtain ⟨hqt, hqt6⟩ := hqt
                      have g1 : (q : Int) < (fs.length : Int) := by omega
                      have g2 : (q : Int) < 6 := by omega
                      obtain ⟨b3, o3, rfl⟩ := Hfs.out.head (by omega)
                      have cq := (Hfs.out.st rfl s15).cellAt q hqt
                      have k1 := and_m3 fs[q]
                      obtain ⟨yq, hyq, hyq8⟩ : ∃ y : Nat, fs[q] % 8 = (y : Int) ∧ y < 8 := ⟨(fs[q] % 8).toNat, by omega, by omega⟩
                      rw [hyq] at k1
                      generalize fs[q] = fq at *
                      have S15 := Lib.hid (s15.eq (Q := fz (.pointer (some ⟨fb, 0, none⟩)) (some F3) * (tps (some ⟨fb, 0, none⟩) [p0, p1, p2] Ts3 * (pts gl (.cells #[pp p0, pp p1, pp p2] 43 (0, 0)) * (pts (W.heap.size + 1) (.cells #[.int .i64 q0, .int .i64 q1, .int .i64 q2] 34 (0, 0)) * Z)))) (by ac_rfl))
                      obtain ⟨F', Ts4, hF', hFs, hiv4, hop⟩ := open_iv W.heap.size W p0 p1 p2 (some ⟨fb, 0, none⟩) (pts gl (.cells #[pp p0, pp p1, pp p2] 43 (0, 0)) * (pts (W.heap.size + 1) (.cells #[.int .i64 q0, .int .i64 q1, .int .i64 q2] 34 (0, 0)) * Z)) (F := some ⟨yq + 1, true⟩) (.inr ⟨_, rfl⟩) HokL.out Hor.out hiv3 hjL
                      obtain ⟨F4, rfl⟩ : ∃ F4, F' = some F4 := Option.isSome_iff_exists.1 (hFs rfl)
                      have Hop := Lib.hid hop
                      have Hiv4 := Lib.hid hiv4
                      clear hop hiv4
                      clear s15 hyq hiv3 hty3 hF' hFs
                      go_wp2_with fail
                      refine (set_calls _ _ ((yq : Int) + 1) _ (by omega) S15.out).mono ?_
                      rintro e w16 ⟨rfl, s16⟩
                      rw [show Fu.new ((yq : Int) + 1) = ⟨yq + 1, true⟩ by unfold Fu.new; congr 1; exact decide_eq_true (by omega)] at s16
                      have s17 := s16.eq (Q := pts gl (.cells #[pp p0, pp p1, pp p2] 43 (0, 0)) * (fz (.pointer (some ⟨fb, 0, none⟩)) (some ⟨yq + 1, true⟩) * (tps (some ⟨fb, 0, none⟩) [p0, p1, p2] Ts3 * (pts (W.heap.size + 1) (.cells #[.int .i64 q0, .int .i64 q1, .int .i64 q2] 34 (0, 0)) * Z)))) (by ac_rfl)
                      have c0 := s17.cell 0
                      have c1' := s17.cell 1
                      have c2' := s17.cell 2
                      simp at c0 c1' c2'
                      have S16 := Lib.hid s16
                      clear s16 s17 S15
                      go_wp2_with fail
                      clear c0 c1' c2'
                      refine (open_calls (some ⟨yq + 1, true⟩) Ts3 p0 p1 p2 (some ⟨fb, 0, none⟩) hT3 w16 (R := pts gl (.cells #[pp p0, pp p1, pp p2] 43 (0, 0)) * (pts (W.heap.size + 1) (.cells #[.int .i64 q0, .int .i64 q1, .int .i64 q2] 34 (0, 0)) * Z)) (S16.out.eq (by ac_rfl))).mono ?_
                      intro e w17 h
                      rcases Hop.out with hy | hn
                      · obtain ⟨X, b5, v5, vs5, rfl, hbr, s18⟩ := hy _ _ h
                        obtain ⟨A5, c5, rfl, -, -, -, -⟩ := hbr.val
                        have hwt2 : (((L ++ tl true r).length : Int) != (11 : Int)) = false := by rw [Hwt.out]; simp
                        obtain ⟨ln, hln⟩ : ∃ n, (L ++ tl true r).length = n := ⟨_, rfl⟩
                        rw [hln] at hwt2 s18
                        rw [hln]
                        have S18 := Lib.hid (s18.eq (Q := tps (some ⟨fb, 0, none⟩) [p0, p1, p2] Ts4 * (pts gl (.cells #[pp p0, pp p1, pp p2] 43 (0, 0)) * (pts (W.heap.size + 1) (.cells #[.int .i64 q0, .int .i64 q1, .int .i64 q2] 34 (0, 0)) * (fz (.pointer (some ⟨fb, 0, none⟩)) (some F4) * (X * (tro b5 p0 p1 p2 ln * Z)))))) (by rw [trx_eq]; ac_rfl))
                        generalize X * (tro b5 p0 p1 p2 ln * Z) = Z5 at *
                        clear s18 hbr h S16 Hop hy hln
                        as_aux_lemma =>
                          obtain ⟨T0, T1, T2, hTs, -⟩ := id Hiv4.out
                          subst hTs
                          have S19 := Lib.hid (show St W.heap.size W w17 (CQ (W.heap.size + 1) (some ⟨fb, 0, none⟩) p0 p1 p2 gl q0 q1 q2 T0 T1 T2 (fz (.pointer (some ⟨fb, 0, none⟩)) (some F4) * Z5) 0) from S18.out)
                          clear S18
                          go_wp2_with fail
                          go_loopw [24] (fun i wr => ∃ j : Nat, j ≤ 3 ∧ i = .int .i64 j ∧ St W.heap.size W wr (CQ (W.heap.size + 1) (some ⟨fb, 0, none⟩) p0 p1 p2 gl q0 q1 q2 T0 T1 T2 (fz (.pointer (some ⟨fb, 0, none⟩)) (some F4) * Z5) j)) (fun i _ => 3 - (intOf i).toNat)
                          case atStart => exact ⟨0, Nat.zero_le _, rfl, S19.out⟩
                          case round =>
                            obtain ⟨j, hj, rfl, s20⟩ := hrel
                            clear S19
                            by_cases hjt : j < 3
                            · have hjI : (j : Int) < 3 := by omega
                              obtain ⟨pj, hpj⟩ : ∃ z, [p0, p1, p2].getD j 0 = z := ⟨_, rfl⟩
                              obtain ⟨nj, hnj⟩ : ∃ z, [q0, q1, q2].getD j 0 = z := ⟨_, rfl⟩
                              have hg1 := fun (m : Nat) (w : World) (s : St W.heap.size W w (CQ (W.heap.size + 1) (some ⟨fb, 0, none⟩) p0 p1 p2 gl q0 q1 q2 T0 T1 T2 (fz (.pointer (some ⟨fb, 0, none⟩)) (some F4) * Z5) m)) => (cq_cell s j hjt).1
                              have hg2 := fun (m : Nat) (w : World) (s : St W.heap.size W w (CQ (W.heap.size + 1) (some ⟨fb, 0, none⟩) p0 p1 p2 gl q0 q1 q2 T0 T1 T2 (fz (.pointer (some ⟨fb, 0, none⟩)) (some F4) * Z5) m)) => (cq_cell s j hjt).2
                              have hcc := fun (w : World) (s : St W.heap.size W w (CQ (W.heap.size + 1) (some ⟨fb, 0, none⟩) p0 p1 p2 gl q0 q1 q2 T0 T1 T2 (fz (.pointer (some ⟨fb, 0, none⟩)) (some F4) * Z5) j)) => cq_crash s hm0 hm1 hm2 hjt
                              rw [hpj] at hg1 hcc
                              rw [hnj] at hg2 hcc
                              have S20 := Lib.hid s20
                              have Hg1 := Lib.hid hg1
                              have Hg2 := Lib.hid hg2
                              have Hcc := Lib.hid hcc
                              clear hg1 hg2 hcc
                              clear s20 hpj hnj
                              go_wp2_with fail
                              refine wp_region_rx (fun i w => St W.heap.size W w (CQ (W.heap.size + 1) (some ⟨fb, 0, none⟩) p0 p1 p2 gl q0 q1 q2 T0 T1 T2 (fz (.pointer (some ⟨fb, 0, none⟩)) (some F4) * Z5) (if i = 0 then j else j + 1))) [6] mixed (by kernel_rfl) (by kernel_rfl) S20.out.drew ?_
                              refine RXl.exact (.int .i64 j) rfl rfl rfl rfl rfl (fun _ _ _ _ _ => rfl) ?_
                              refine RXl.exact (.pointer (some ⟨gl, j, none⟩)) rfl rfl rfl rfl rfl (fun j τ w' hj hJ => by simp [rho, upd, Spec.val, execOp, go_sem, hjI]) ?_
                              refine RXl.exact (pp pj) rfl rfl rfl rfl rfl (fun j τ w' hj hJ => by have c := Hg1.out _ _ hJ; simp [rho, upd, Spec.val, execOp, go_sem, c]) ?_
                              refine RXl.exact (.int .i64 j) rfl rfl rfl rfl rfl (fun _ _ _ _ _ => rfl) ?_
                              refine RXl.exact (.pointer (some ⟨W.heap.size + 1, j, none⟩)) rfl rfl rfl rfl rfl (fun j τ w' hj hJ => by simp [rho, upd, Spec.val, execOp, go_sem, hjI]) ?_
                              refine RXl.exact (.int .i64 nj) rfl rfl rfl rfl rfl (fun j τ w' hj hJ => by have c := Hg2.out _ _ hJ; simp [rho, upd, Spec.val, execOp, go_sem, c]) ?_
                              refine RXl.callj 0 (.tuple #[]) _ [pp pj, .int .i64 nj] [.tmp 191, .tmp 194] _ rfl rfl rfl rfl rfl rfl (fun _ => rfl) (fun w' hJ => Hcc.out w' hJ) ?_
                              refine RXl.nilx _ (Agr.upd _ _ (Agr.upd _ _ (Agr.upd _ _ (Agr.upd _ _ (Agr.upd _ _ (Agr.upd _ _ (Agr.upd _ _ (Agr.base _)))))))) fun w21 hJ => ?_
                              obtain ⟨_, hJ⟩ := hJ
                              simp only [Act.put, List.setIfInBounds_toArray, List.set_cons_succ, List.set_cons_zero]
                              have S21 := Lib.hid (show St W.heap.size W w21 (CQ (W.heap.size + 1) (some ⟨fb, 0, none⟩) p0 p1 p2 gl q0 q1 q2 T0 T1 T2 (fz (.pointer (some ⟨fb, 0, none⟩)) (some F4) * Z5) (j + 1)) from hJ)
                              clear hJ S20
                              go_wp2_with fail
                              go_roundw
                              case rel => exact ⟨j + 1, by omega, by go_num, S21.out⟩
                              case measure => simp [intOf]; omega
                            · obtain rfl : j = 3 := by omega
                              have hiv6 := Hiv4.out.crash q0 q1 q2
                              have hty6 := Hiv4.out.crash_ty q0 q1 q2
                              unfold CQ at s20
                              generalize crs T0 T1 T2 q0 q1 q2 3 = Ts6 at *
                              have S21 := Lib.hid s20
                              have Hiv6 := Lib.hid hiv6
                              have Hty6 := Lib.hid hty6
                              clear hiv6 hty6
                              clear s20
                              go_wp2_with fail
                              go_roundw
                              case rel => exact ⟨q + 1, Ts6, F4, Z5, by omega, by omega, by go_num, Hiv6.out, Hty6.out, S21.out.eq (by ac_rfl)⟩
                              case measure => simp [intOf]; omega
                      · obtain ⟨rfl, s18⟩ := hn _ _ h
                        have S18 := Lib.hid (s18.eq (Q := tps (some ⟨fb, 0, none⟩) [p0, p1, p2] Ts4 * (pts gl (.cells #[pp p0, pp p1, pp p2] 43 (0, 0)) * (pts (W.heap.size + 1) (.cells #[.int .i64 q0, .int .i64 q1, .int .i64 q2] 34 (0, 0)) * (fz (.pointer (some ⟨fb, 0, none⟩)) (some F4) * Z)))) (by ac_rfl))
                        generalize Z = Z5 at *
                        clear s18 h S16 Hop hn
                        as_aux_lemma =>
                          obtain ⟨T0, T1, T2, hTs, -⟩ := id Hiv4.out
                          subst hTs
                          have S19 := Lib.hid (show St W.heap.size W w17 (CQ (W.heap.size + 1) (some ⟨fb, 0, none⟩) p0 p1 p2 gl q0 q1 q2 T0 T1 T2 (fz (.pointer (some ⟨fb, 0, none⟩)) (some F4) * Z5) 0) from S18.out)
                          clear S18
                          go_wp2_with fail
                          go_loopw [24] (fun i wr => ∃ j : Nat, j ≤ 3 ∧ i = .int .i64 j ∧ St W.heap.size W wr (CQ (W.heap.size + 1) (some ⟨fb, 0, none⟩) p0 p1 p2 gl q0 q1 q2 T0 T1 T2 (fz (.pointer (some ⟨fb, 0, none⟩)) (some F4) * Z5) j)) (fun i _ => 3 - (intOf i).toNat)
                          case atStart => exact ⟨0, Nat.zero_le _, rfl, S19.out⟩
                          case round =>
                            obtain ⟨j, hj, rfl, s20⟩ := hrel
                            clear S19
                            by_cases hjt : j < 3
                            · have hjI : (j : Int) < 3 := by omega
                              obtain ⟨pj, hpj⟩ : ∃ z, [p0, p1, p2].getD j 0 = z := ⟨_, rfl⟩
                              obtain ⟨nj, hnj⟩ : ∃ z, [q0, q1, q2].getD j 0 = z := ⟨_, rfl⟩
                              have hg1 := fun (m : Nat) (w : World) (s : St W.heap.size W w (CQ (W.heap.size + 1) (some ⟨fb, 0, none⟩) p0 p1 p2 gl q0 q1 q2 T0 T1 T2 (fz (.pointer (some ⟨fb, 0, none⟩)) (some F4) * Z5) m)) => (cq_cell s j hjt).1
                              have hg2 := fun (m : Nat) (w : World) (s : St W.heap.size W w (CQ (W.heap.size + 1) (some ⟨fb, 0, none⟩) p0 p1 p2 gl q0 q1 q2 T0 T1 T2 (fz (.pointer (some ⟨fb, 0, none⟩)) (some F4) * Z5) m)) => (cq_cell s j hjt).2
                              have hcc := fun (w : World) (s : St W.heap.size W w (CQ (W.heap.size + 1) (some ⟨fb, 0, none⟩) p0 p1 p2 gl q0 q1 q2 T0 T1 T2 (fz (.pointer (some ⟨fb, 0, none⟩)) (some F4) * Z5) j)) => cq_crash s hm0 hm1 hm2 hjt
                              rw [hpj] at hg1 hcc
                              rw [hnj] at hg2 hcc
                              have S20 := Lib.hid s20
                              have Hg1 := Lib.hid hg1
                              have Hg2 := Lib.hid hg2
                              have Hcc := Lib.hid hcc
                              clear hg1 hg2 hcc
                              clear s20 hpj hnj
                              go_wp2_with fail
                              refine wp_region_rx (fun i w => St W.heap.size W w (CQ (W.heap.size + 1) (some ⟨fb, 0, none⟩) p0 p1 p2 gl q0 q1 q2 T0 T1 T2 (fz (.pointer (some ⟨fb, 0, none⟩)) (some F4) * Z5) (if i = 0 then j else j + 1))) [6] mixed (by kernel_rfl) (by kernel_rfl) S20.out.drew ?_
                              refine RXl.exact (.int .i64 j) rfl rfl rfl rfl rfl (fun _ _ _ _ _ => rfl) ?_
                              refine RXl.exact (.pointer (some ⟨gl, j, none⟩)) rfl rfl rfl rfl rfl (fun j τ w' hj hJ => by simp [rho, upd, Spec.val, execOp, go_sem, hjI]) ?_
                              refine RXl.exact (pp pj) rfl rfl rfl rfl rfl (fun j τ w' hj hJ => by have c := Hg1.out _ _ hJ; simp [rho, upd, Spec.val, execOp, go_sem, c]) ?_
                              refine RXl.exact (.int .i64 j) rfl rfl rfl rfl rfl (fun _ _ _ _ _ => rfl) ?_
                              refine RXl.exact (.pointer (some ⟨W.heap.size + 1, j, none⟩)) rfl rfl rfl rfl rfl (fun j τ w' hj hJ => by simp [rho, upd, Spec.val, execOp, go_sem, hjI]) ?_
                              refine RXl.exact (.int .i64 nj) rfl rfl rfl rfl rfl (fun j τ w' hj hJ => by have c := Hg2.out _ _ hJ; simp [rho, upd, Spec.val, execOp, go_sem, c]) ?_
                              refine RXl.callj 0 (.tuple #[]) _ [pp pj, .int .i64 nj] [.tmp 191, .tmp 194] _ rfl rfl rfl rfl rfl rfl (fun _ => rfl) (fun w' hJ => Hcc.out w' hJ) ?_
                              refine RXl.nilx _ (Agr.upd _ _ (Agr.upd _ _ (Agr.upd _ _ (Agr.upd _ _ (Agr.upd _ _ (Agr.upd _ _ (Agr.upd _ _ (Agr.base _)))))))) fun w21 hJ => ?_
                              obtain ⟨_, hJ⟩ := hJ
                              simp only [Act.put, List.setIfInBounds_toArray, List.set_cons_succ, List.set_cons_zero]
                              have S21 := Lib.hid (show St W.heap.size W w21 (CQ (W.heap.size + 1) (some ⟨fb, 0, none⟩) p0 p1 p2 gl q0 q1 q2 T0 T1 T2 (fz (.pointer (some ⟨fb, 0, none⟩)) (some F4) * Z5) (j + 1)) from hJ)
                              clear hJ S20
                              go_wp2_with fail
                              go_roundw
                              case rel => exact ⟨j + 1, by omega, by go_num, S21.out⟩
                              case measure => simp [intOf]; omega
                            · obtain rfl : j = 3 := by omega
                              have hiv6 := Hiv4.out.crash q0 q1 q2
                              have hty6 := Hiv4.out.crash_ty q0 q1 q2
                              unfold CQ at s20
                              generalize crs T0 T1 T2 q0 q1 q2 3 = Ts6 at *
                              have S21 := Lib.hid s20
                              have Hiv6 := Lib.hid hiv6
                              have Hty6 := Lib.hid hty6
                              clear hiv6 hty6
                              clear s20
                              go_wp2_with fail
                              go_roundw
                              case rel => exact ⟨q + 1, Ts6, F4, Z5, by omega, by omega, by go_num, Hiv6.out, Hty6.out, S21.out.eq (by ac_rfl)⟩
                              case measure => simp [intOf]; omega
                    · have h7 : ¬ (q : Int) < (fs.length : Int) ∨ (q : Int) < (fs.length : Int) ∧ ¬ (q : Int) < 6 := by omega
                      clear hqt
                      rcases h7 with h7 | ⟨h7, h8⟩
                      · as_aux_lemma =>
                          obtain ⟨Ts4, hop⟩ := open_last W.heap.size W p0 p1 p2 (some ⟨fb, 0, none⟩) (pts gl (.cells #[pp p0, pp p1, pp p2] 43 (0, 0)) * (pts (W.heap.size + 1) (.cells #[.int .i64 q0, .int .i64 q1, .int .i64 q2] 34 (0, 0)) * Z)) und_zero HokL.out Hor.out hiv3 hty3 hjL
                          have S15 := Lib.hid (s15.eq (Q := fz (.pointer (some ⟨fb, 0, none⟩)) (some F3) * (tps (some ⟨fb, 0, none⟩) [p0, p1, p2] Ts3 * (pts gl (.cells #[pp p0, pp p1, pp p2] 43 (0, 0)) * (pts (W.heap.size + 1) (.cells #[.int .i64 q0, .int .i64 q1, .int .i64 q2] 34 (0, 0)) * Z)))) (by ac_rfl))
                          have Hop := Lib.hid hop
                          clear hop
                          clear s15 hiv3 hty3
                          go_wp2_with fail
                          refine (set_calls _ _ 0 _ (by omega) S15.out).mono ?_
                          rintro e w16 ⟨rfl, s16⟩
                          have s17 := s16.eq (Q := pts gl (.cells #[pp p0, pp p1, pp p2] 43 (0, 0)) * (fz (.pointer (some ⟨fb, 0, none⟩)) (some (Fu.new 0)) * (tps (some ⟨fb, 0, none⟩) [p0, p1, p2] Ts3 * (pts (W.heap.size + 1) (.cells #[.int .i64 q0, .int .i64 q1, .int .i64 q2] 34 (0, 0)) * Z)))) (by ac_rfl)
                          have c0 := s17.cell 0
                          have c1' := s17.cell 1
                          have c2' := s17.cell 2
                          simp at c0 c1' c2'
                          have S16 := Lib.hid s16
                          clear s16 s17 S15
                          go_wp2_with fail
                          clear c0 c1' c2'
                          refine (open_calls (some (Fu.new 0)) Ts3 p0 p1 p2 (some ⟨fb, 0, none⟩) hT3 w16 (R := pts gl (.cells #[pp p0, pp p1, pp p2] 43 (0, 0)) * (pts (W.heap.size + 1) (.cells #[.int .i64 q0, .int .i64 q1, .int .i64 q2] 34 (0, 0)) * Z)) (S16.out.eq (by ac_rfl))).mono ?_
                          intro e w17 h
                          obtain ⟨X, b5, v5, vs5, rfl, hbr, s18⟩ := Hop.out _ _ h
                          have hwt2 : (((L ++ tl true r).length : Int) != (11 : Int)) = false := by rw [Hwt.out]; simp
                          have Hmi := Lib.hid (show (if (10 : Int) < (rs.length : Int) then (10 : Int) else (rs.length : Int)) = (k : Int) by have := Hmin.out; split <;> omega)
                          have hLn : (L ++ tl true r).length = k + if true then 1 else 0 := by rw [lt_len, HlL.out]
                          have hget : ∀ (j : Nat) (hj : j < (L ++ tl true r).length), (j < k ∧ ∃ h : j < rs.length, (L ++ tl true r)[j] = rs[j]) ∨ (j = k ∧ (L ++ tl true r)[j] = r) := by
                            intro j hj
                            rw [hLn] at hj
                            by_cases h : j < k
                            · refine .inl ⟨h, by have := Hmin.out; omega, ?_⟩
                              rw [List.getElem_append_left (by rw [HlL.out]; exact h)]
                              have := HLd.out
                              subst this
                              rw [List.getElem_take]
                            · have hf : true = true := by first | rfl | (exfalso; simp at hj; omega)
                              have hjk : j = k := by rw [hf] at hj; simp at hj; omega
                              refine .inr ⟨hjk, ?_⟩
                              rw [List.getElem_append_right (by rw [HlL.out]; omega)]
                              simp [tl, hf]
                          generalize hLs : L ++ tl true r = Ls at *
                          obtain ⟨R8, hR8⟩ : ∃ ZZ, ZZ = trx b5 (some ⟨fb, 0, none⟩) [p0, p1, p2] Ls.length Ts4 (some (Fu.new 0)) * (pts gl (.cells #[pp p0, pp p1, pp p2] 43 (0, 0)) * (pts (W.heap.size + 1) (.cells #[.int .i64 q0, .int .i64 q1, .int .i64 q2] 34 (0, 0)) * Z)) := ⟨_, rfl⟩
                          rw [← hR8] at s18
                          obtain ⟨A5, c5, rfl, h51, h52, h53, h54⟩ := hbr.val
                          have S18 := Lib.hid s18
                          have Hln := Lib.hid hLn
                          have Hbr := Lib.hid hbr
                          have H53 := Lib.hid h53
                          have H54 := Lib.hid h54
                          have HLs := Lib.hid hLs
                          have Hget := Lib.hid hget
                          clear hbr h53 h54 hLs hget
                          clear s18 h S16 Hop hR8 hLn
                          go_wp2_with fail
                          go_loopw [28] (fun i wr => ∃ j : Nat, j ≤ Ls.length ∧ i = .int .i64 j ∧ St W.heap.size W wr (X * R8)) (fun i _ => Ls.length - (intOf i).toNat)
                          case atStart => exact ⟨0, Nat.zero_le _, rfl, S18.out⟩
                          case round =>
                            obtain ⟨j, hj, rfl, s19⟩ := hrel
                            clear S18
                            by_cases hjt : j < Ls.length
                            · have t3 : (j : Int) < (Ls.length : Int) := by omega
                              have hg := Hget.out j hjt
                              obtain ⟨u, hu, hbu⟩ := Hbr.out.at' wr R8 (s19.eq (sep_comm _ _)) j hjt
                              obtain ⟨aj, cj, rfl, -⟩ := id hbu
                              have hne : vs5 ≠ [] := by intro e; rw [e] at hu; simp at hu
                              obtain ⟨bg, og, rfl, -⟩ := (H54.out wr R8 (s19.eq (sep_comm _ _))).at hne
                              have hcg : ∀ w, St W.heap.size W w (X * R8) → w.cell? ⟨bg, og + j, none⟩ = some (.slice aj Ls[j].length cj) := fun w s => by
                                obtain ⟨_, _, e, hc⟩ := (H54.out w R8 (s.eq (sep_comm _ _))).at hne
                                cases e
                                exact hc j _ hu
                              have hbg : ∀ w, St W.heap.size W w (X * R8) → BS w (.slice aj Ls[j].length cj) Ls[j] := fun w s => by
                                obtain ⟨u', hu', hb'⟩ := Hbr.out.at' w R8 (s.eq (sep_comm _ _)) j hjt
                                rw [hu] at hu'
                                cases hu'
                                exact hb'
                              generalize Ls[j] = lj at *
                              have S19 := Lib.hid s19
                              have Hcg := Lib.hid hcg
                              have Hbg := Lib.hid hbg
                              clear hcg hbg
                              clear s19 hbu hu
                              rcases hg with ⟨hjk, hjr, hlj⟩ | ⟨hjk, hlj⟩
                              · obtain ⟨-, -, -, -, us, hru, hlv, hbu⟩ := Hrs.out.open'
                                obtain ⟨u, hu, hbu⟩ := hbu j hjr
                                rw [← hlj] at hbu
                                obtain ⟨ar, cr, rfl, -⟩ := id hbu
                                obtain ⟨b1, o1, rfl, hc⟩ := hru.at (by rintro rfl; rw [List.length_nil] at hlv; omega)
                                have hcr : ∀ w, St W.heap.size W w (X * R8) → w.cell? ⟨b1, o1 + j, none⟩ = some (.slice ar lj.length cr) := fun w s => Add.cell s.below (hc j _ hu)
                                have hbr2 : ∀ w, St W.heap.size W w (X * R8) → BS w (.slice ar lj.length cr) lj := fun w s => hbu.below s.below
                                have t4 : (j : Int) < (rs.length : Int) := by omega
                                have t5 : (j : Int) < 10 := by omega
                                have t6 : ¬ (k : Int) ≤ (j : Int) := by omega
                                have Hcr := Lib.hid hcr
                                have Hbr2 := Lib.hid hbr2
                                clear hcr hbr2
                                clear hru hlv hbu hu hc hlj
                                go_wp2_with fail
                                refine wp_region_rx (fun _ w' => St W.heap.size W w' (X * R8)) [] mixed (by kernel_rfl) (by kernel_rfl) S19.out.drew ?_
                                refine RXl.exact (.int .i64 j) rfl rfl rfl rfl rfl (fun _ _ _ _ _ => rfl) ?_
                                refine RXl.exact (.slice (some ⟨b1, o1, none⟩) rs.length ca) rfl rfl rfl rfl rfl (fun _ _ _ _ _ => rfl) ?_
                                refine RXl.exact (.int .i64 rs.length) rfl rfl rfl rfl rfl (fun j τ w' hj hJ => by simp [rho, upd, Spec.val, execOp, go_sem, resolve, invoke, builtin]) ?_
                                refine RXl.exact (.bool true) rfl rfl rfl rfl rfl (fun j τ w' hj hJ => by simp [rho, upd, Spec.val, execOp, go_sem, t4]) ?_
                                refine RXl.exact (.bool true) rfl rfl rfl rfl rfl (fun _ _ _ _ _ => rfl) ?_
                                refine RXl.exact (.int .i64 j) rfl rfl rfl rfl rfl (fun _ _ _ _ _ => rfl) ?_
                                refine RXl.exact (.bool true) rfl rfl rfl rfl rfl (fun j τ w' hj hJ => by simp [rho, upd, Spec.val, execOp, go_sem, t5]) ?_
                                refine RXl.exact (.bool true) rfl rfl rfl rfl rfl (fun _ _ _ _ _ => rfl) ?_
                                refine RXl.exact (.bool true) rfl rfl rfl rfl rfl (fun _ _ _ _ _ => rfl) ?_
                                refine RXl.exact (.slice (some ⟨bg, og, none⟩) Ls.length c5) rfl rfl rfl rfl rfl (fun _ _ _ _ _ => rfl) ?_
                                refine RXl.exact (.int .i64 j) rfl rfl rfl rfl rfl (fun _ _ _ _ _ => rfl) ?_
                                refine RXl.exact (.pointer (some ⟨bg, og + j, none⟩)) rfl rfl rfl rfl rfl (fun j τ w' hj hJ => by simp [rho, upd, Spec.val, execOp, go_sem, t3]) ?_
                                refine RXl.exact (.slice aj lj.length cj) rfl rfl rfl rfl rfl (fun j τ w' hj hJ => by have c := Hcg.out _ hJ; simp [rho, upd, Spec.val, execOp, go_sem, c]) ?_
                                refine RXl.exact (str lj) rfl rfl rfl rfl rfl (fun j τ w' hj hJ => exec_convert rfl (run_str Try.underlying23 Try.underlying5 Try.underlying9 (Hbg.out _ hJ))) ?_
                                refine RXl.exact (.slice (some ⟨b1, o1, none⟩) rs.length ca) rfl rfl rfl rfl rfl (fun _ _ _ _ _ => rfl) ?_
                                refine RXl.exact (.int .i64 j) rfl rfl rfl rfl rfl (fun _ _ _ _ _ => rfl) ?_
                                refine RXl.exact (.pointer (some ⟨b1, o1 + j, none⟩)) rfl rfl rfl rfl rfl (fun j τ w' hj hJ => by simp [rho, upd, Spec.val, execOp, go_sem, t4]) ?_
                                refine RXl.exact (.slice ar lj.length cr) rfl rfl rfl rfl rfl (fun j τ w' hj hJ => by have c := Hcr.out _ hJ; simp [rho, upd, Spec.val, execOp, go_sem, c]) ?_
                                refine RXl.exact (str lj) rfl rfl rfl rfl rfl (fun j τ w' hj hJ => exec_convert rfl (run_str Try.underlying23 Try.underlying5 Try.underlying9 (Hbr2.out _ hJ))) ?_
                                refine RXl.exact (.bool false) rfl rfl rfl rfl rfl (fun j τ w' hj hJ => by simp [rho, upd, Spec.val, execOp, go_sem]) ?_
                                refine RXl.exact (.bool false) rfl rfl rfl rfl rfl (fun _ _ _ _ _ => rfl) ?_
                                refine RXl.exact (.bool false) rfl rfl rfl rfl rfl (fun _ _ _ _ _ => rfl) ?_
                                refine RXl.exact (.int .i64 j) rfl rfl rfl rfl rfl (fun _ _ _ _ _ => rfl) ?_
                                refine RXl.exact (.slice (some ⟨b1, o1, none⟩) rs.length ca) rfl rfl rfl rfl rfl (fun _ _ _ _ _ => rfl) ?_
                                refine RXl.exact (.int .i64 rs.length) rfl rfl rfl rfl rfl (fun j τ w' hj hJ => by simp [rho, upd, Spec.val, execOp, go_sem, resolve, invoke, builtin]) ?_
                                refine RXl.exact (.int .i64 k) rfl rfl rfl rfl rfl (fun j τ w' hj hJ => by simp [rho, upd, Spec.val, execOp, go_sem, resolve, invoke, builtin, Hmi.out]) ?_
                                refine RXl.exact (.bool false) rfl rfl rfl rfl rfl (fun j τ w' hj hJ => by simp [rho, upd, Spec.val, execOp, go_sem]; exact hjk) ?_
                                refine RXl.exact (.bool false) rfl rfl rfl rfl rfl (fun _ _ _ _ _ => rfl) ?_
                                refine RXl.skip rfl rfl rfl rfl ?_
                                refine RXl.skip rfl rfl rfl rfl ?_
                                refine RXl.skip rfl rfl rfl rfl ?_
                                refine RXl.skip rfl rfl rfl rfl ?_
                                refine RXl.skip rfl rfl rfl rfl ?_
                                refine RXl.skip rfl rfl rfl rfl ?_
                                refine RXl.skip rfl rfl rfl rfl ?_
                                refine RXl.skip rfl rfl rfl rfl ?_
                                refine RXl.exact (.bool false) rfl rfl rfl rfl rfl (fun _ _ _ _ _ => rfl) ?_
                                refine RXl.exact (.bool false) rfl rfl rfl rfl rfl (fun _ _ _ _ _ => rfl) ?_
                                refine RXl.nilx _ (Agr.upd _ _ (Agr.upd _ _ (Agr.upd _ _ (Agr.upd _ _ (Agr.upd _ _ (Agr.upd _ _ (Agr.upd _ _ (Agr.upd _ _ (Agr.upd _ _ (Agr.upd _ _ (Agr.upd _ _ (Agr.upd _ _ (Agr.upd _ _ (Agr.upd _ _ (Agr.upd _ _ (Agr.upd _ _ (Agr.upd _ _ (Agr.upd _ _ (Agr.upd _ _ (Agr.upd _ _ (Agr.upd _ _ (Agr.upd _ _ (Agr.upd _ _ (Agr.upd _ _ (Agr.upd _ _ (Agr.upd _ _ (Agr.upd _ _ (Agr.upd _ _ (Agr.upd _ _ (Agr.upd _ _ (Agr.upd _ _ (Agr.upd _ _ (Agr.upd _ _ (Agr.upd _ _ (Agr.upd _ _ (Agr.upd _ _ (Agr.upd _ _ (Agr.upd _ _ (Agr.base _))))))))))))))))))))))))))))))))))))))) fun w22 hJ => ?_
                                obtain ⟨_, hJ⟩ := hJ
                                simp only [Act.put, List.setIfInBounds_toArray, List.set_cons_succ, List.set_cons_zero]
                                have S20 := Lib.hid (show St W.heap.size W w22 (X * R8) from hJ)
                                clear hJ S19
                                go_wp2_with fail
                                go_roundw
                                case rel => exact ⟨j + 1, by omega, by go_num, S20.out⟩
                                case measure => simp [intOf]; omega
                              · have t7 : (k : Int) ≤ (j : Int) := by omega
                                have hbr2 : ∀ w, St W.heap.size W w (X * R8) → BS w (.slice a1 r.length c1) r := fun w s => Hr.out.st rfl s
                                have Hbr2 := Lib.hid hbr2
                                have Hlj := Lib.hid hlj
                                clear hbr2 hlj
                                go_wp2_with fail
                                refine wp_region_rx (fun _ w' => St W.heap.size W w' (X * R8)) [] mixed (by kernel_rfl) (by kernel_rfl) S19.out.drew ?_
                                refine RXl.exact (.int .i64 j) rfl rfl rfl rfl rfl (fun _ _ _ _ _ => rfl) ?_
                                refine RXl.exact (.slice a rs.length ca) rfl rfl rfl rfl rfl (fun _ _ _ _ _ => rfl) ?_
                                refine RXl.exact (.int .i64 rs.length) rfl rfl rfl rfl rfl (fun j τ w' hj hJ => by simp [rho, upd, Spec.val, execOp, go_sem, resolve, invoke, builtin]) ?_
                                refine RXl.exact (.bool true) rfl rfl rfl rfl rfl (fun j τ w' hj hJ => by simp [rho, upd, Spec.val, execOp, go_sem] <;> omega) ?_
                                refine RXl.exact (.bool true) rfl rfl rfl rfl rfl (fun _ _ _ _ _ => rfl) ?_
                                refine RXl.exact (.int .i64 j) rfl rfl rfl rfl rfl (fun _ _ _ _ _ => rfl) ?_
                                refine RXl.exact (.bool false) rfl rfl rfl rfl rfl (fun j τ w' hj hJ => by simp [rho, upd, Spec.val, execOp, go_sem] <;> omega) ?_
                                refine RXl.exact (.bool false) rfl rfl rfl rfl rfl (fun _ _ _ _ _ => rfl) ?_
                                refine RXl.exact (.bool false) rfl rfl rfl rfl rfl (fun _ _ _ _ _ => rfl) ?_
                                refine RXl.skip rfl rfl rfl rfl ?_
                                refine RXl.skip rfl rfl rfl rfl ?_
                                refine RXl.skip rfl rfl rfl rfl ?_
                                refine RXl.skip rfl rfl rfl rfl ?_
                                refine RXl.skip rfl rfl rfl rfl ?_
                                refine RXl.skip rfl rfl rfl rfl ?_
                                refine RXl.skip rfl rfl rfl rfl ?_
                                refine RXl.skip rfl rfl rfl rfl ?_
                                refine RXl.skip rfl rfl rfl rfl ?_
                                refine RXl.skip rfl rfl rfl rfl ?_
                                refine RXl.skip rfl rfl rfl rfl ?_
                                refine RXl.exact (.bool false) rfl rfl rfl rfl rfl (fun _ _ _ _ _ => rfl) ?_
                                refine RXl.exact (.bool false) rfl rfl rfl rfl rfl (fun _ _ _ _ _ => rfl) ?_
                                refine RXl.exact (.int .i64 j) rfl rfl rfl rfl rfl (fun _ _ _ _ _ => rfl) ?_
                                refine RXl.exact (.slice a rs.length ca) rfl rfl rfl rfl rfl (fun _ _ _ _ _ => rfl) ?_
                                refine RXl.exact (.int .i64 rs.length) rfl rfl rfl rfl rfl (fun j τ w' hj hJ => by simp [rho, upd, Spec.val, execOp, go_sem, resolve, invoke, builtin]) ?_
                                refine RXl.exact (.int .i64 k) rfl rfl rfl rfl rfl (fun j τ w' hj hJ => by simp [rho, upd, Spec.val, execOp, go_sem, resolve, invoke, builtin, Hmi.out]) ?_
                                refine RXl.exact (.bool true) rfl rfl rfl rfl rfl (fun j τ w' hj hJ => by simp [rho, upd, Spec.val, execOp, go_sem] <;> omega) ?_
                                refine RXl.exact (.bool true) rfl rfl rfl rfl rfl (fun _ _ _ _ _ => rfl) ?_
                                refine RXl.exact (.slice (some ⟨bg, og, none⟩) Ls.length c5) rfl rfl rfl rfl rfl (fun _ _ _ _ _ => rfl) ?_
                                refine RXl.exact (.int .i64 j) rfl rfl rfl rfl rfl (fun _ _ _ _ _ => rfl) ?_
                                refine RXl.exact (.pointer (some ⟨bg, og + j, none⟩)) rfl rfl rfl rfl rfl (fun j τ w' hj hJ => by simp [rho, upd, Spec.val, execOp, go_sem, t3]) ?_
                                refine RXl.exact (.slice aj lj.length cj) rfl rfl rfl rfl rfl (fun j τ w' hj hJ => by have c := Hcg.out _ hJ; simp [rho, upd, Spec.val, execOp, go_sem, c]) ?_
                                refine RXl.exact (str lj) rfl rfl rfl rfl rfl (fun j τ w' hj hJ => exec_convert rfl (run_str Try.underlying23 Try.underlying5 Try.underlying9 (Hbg.out _ hJ))) ?_
                                refine RXl.exact (.slice a1 r.length c1) rfl rfl rfl rfl rfl (fun _ _ _ _ _ => rfl) ?_
                                refine RXl.exact (str lj) rfl rfl rfl rfl rfl (fun j τ w' hj hJ => by rw [Hlj.out]; exact exec_convert rfl (run_str Try.underlying23 Try.underlying5 Try.underlying9 (Hbr2.out _ hJ))) ?_
                                refine RXl.exact (.bool false) rfl rfl rfl rfl rfl (fun j τ w' hj hJ => by simp [rho, upd, Spec.val, execOp, go_sem]) ?_
                                refine RXl.exact (.bool false) rfl rfl rfl rfl rfl (fun _ _ _ _ _ => rfl) ?_
                                refine RXl.exact (.bool false) rfl rfl rfl rfl rfl (fun _ _ _ _ _ => rfl) ?_
                                refine RXl.nilx _ (Agr.upd _ _ (Agr.upd _ _ (Agr.upd _ _ (Agr.upd _ _ (Agr.upd _ _ (Agr.upd _ _ (Agr.upd _ _ (Agr.upd _ _ (Agr.upd _ _ (Agr.upd _ _ (Agr.upd _ _ (Agr.upd _ _ (Agr.upd _ _ (Agr.upd _ _ (Agr.upd _ _ (Agr.upd _ _ (Agr.upd _ _ (Agr.upd _ _ (Agr.upd _ _ (Agr.upd _ _ (Agr.upd _ _ (Agr.upd _ _ (Agr.upd _ _ (Agr.upd _ _ (Agr.upd _ _ (Agr.upd _ _ (Agr.upd _ _ (Agr.upd _ _ (Agr.upd _ _ (Agr.upd _ _ (Agr.upd _ _ (Agr.upd _ _ (Agr.upd _ _ (Agr.upd _ _ (Agr.upd _ _ (Agr.upd _ _ (Agr.upd _ _ (Agr.upd _ _ (Agr.base _))))))))))))))))))))))))))))))))))))))) fun w22 hJ => ?_
                                obtain ⟨_, hJ⟩ := hJ
                                simp only [Act.put, List.setIfInBounds_toArray, List.set_cons_succ, List.set_cons_zero]
                                have S20 := Lib.hid (show St W.heap.size W w22 (X * R8) from hJ)
                                clear hJ S19
                                go_wp2_with fail
                                go_roundw
                                case rel => exact ⟨j + 1, by omega, by go_num, S20.out⟩
                                case measure => simp [intOf]; omega
                            · obtain rfl : j = Ls.length := by omega
                              have S19 := Lib.hid s19
                              clear s19
                              go_wp2_with fail
                              refine (awake_calls _).mono ?_
                              rintro e w20 ⟨rfl, h2⟩
                              have HA := Lib.hid (S19.out.keep h2)
                              clear h2 S19
                              go_wp2_with fail
                              go_ret
                              exact ⟨rfl, HA.out.below⟩
                      · as_aux_lemma =>
                          obtain ⟨Ts4, hop⟩ := open_last W.heap.size W p0 p1 p2 (some ⟨fb, 0, none⟩) (pts gl (.cells #[pp p0, pp p1, pp p2] 43 (0, 0)) * (pts (W.heap.size + 1) (.cells #[.int .i64 q0, .int .i64 q1, .int .i64 q2] 34 (0, 0)) * Z)) und_zero HokL.out Hor.out hiv3 hty3 hjL
                          have S15 := Lib.hid (s15.eq (Q := fz (.pointer (some ⟨fb, 0, none⟩)) (some F3) * (tps (some ⟨fb, 0, none⟩) [p0, p1, p2] Ts3 * (pts gl (.cells #[pp p0, pp p1, pp p2] 43 (0, 0)) * (pts (W.heap.size + 1) (.cells #[.int .i64 q0, .int .i64 q1, .int .i64 q2] 34 (0, 0)) * Z)))) (by ac_rfl))
                          have Hop := Lib.hid hop
                          clear hop
                          clear s15 hiv3 hty3
                          go_wp2_with fail
                          refine (set_calls _ _ 0 _ (by omega) S15.out).mono ?_
                          rintro e w16 ⟨rfl, s16⟩
                          have s17 := s16.eq (Q := pts gl (.cells #[pp p0, pp p1, pp p2] 43 (0, 0)) * (fz (.pointer (some ⟨fb, 0, none⟩)) (some (Fu.new 0)) * (tps (some ⟨fb, 0, none⟩) [p0, p1, p2] Ts3 * (pts (W.heap.size + 1) (.cells #[.int .i64 q0, .int .i64 q1, .int .i64 q2] 34 (0, 0)) * Z)))) (by ac_rfl)
                          have c0 := s17.cell 0
                          have c1' := s17.cell 1
                          have c2' := s17.cell 2
                          simp at c0 c1' c2'
                          have S16 := Lib.hid s16
                          clear s16 s17 S15
                          go_wp2_with fail
                          clear c0 c1' c2'
                          refine (open_calls (some (Fu.new 0)) Ts3 p0 p1 p2 (some ⟨fb, 0, none⟩) hT3 w16 (R := pts gl (.cells #[pp p0, pp p1, pp p2] 43 (0, 0)) * (pts (W.heap.size + 1) (.cells #[.int .i64 q0, .int .i64 q1, .int .i64 q2] 34 (0, 0)) * Z)) (S16.out.eq (by ac_rfl))).mono ?_
                          intro e w17 h
                          obtain ⟨X, b5, v5, vs5, rfl, hbr, s18⟩ := Hop.out _ _ h
                          have hwt2 : (((L ++ tl true r).length : Int) != (11 : Int)) = false := by rw [Hwt.out]; simp
                          have Hmi := Lib.hid (show (if (10 : Int) < (rs.length : Int) then (10 : Int) else (rs.length : Int)) = (k : Int) by have := Hmin.out; split <;> omega)
                          have hLn : (L ++ tl true r).length = k + if true then 1 else 0 := by rw [lt_len, HlL.out]
                          have hget : ∀ (j : Nat) (hj : j < (L ++ tl true r).length), (j < k ∧ ∃ h : j < rs.length, (L ++ tl true r)[j] = rs[j]) ∨ (j = k ∧ (L ++ tl true r)[j] = r) := by
                            intro j hj
                            rw [hLn] at hj
                            by_cases h : j < k
                            · refine .inl ⟨h, by have := Hmin.out; omega, ?_⟩
                              rw [List.getElem_append_left (by rw [HlL.out]; exact h)]
                              have := HLd.out
                              subst this
                              rw [List.getElem_take]
                            · have hf : true = true := by first | rfl | (exfalso; simp at hj; omega)
                              have hjk : j = k := by rw [hf] at hj; simp at hj; omega
                              refine .inr ⟨hjk, ?_⟩
                              rw [List.getElem_append_right (by rw [HlL.out]; omega)]
                              simp [tl, hf]
                          generalize hLs : L ++ tl true r = Ls at *
                          obtain ⟨R8, hR8⟩ : ∃ ZZ, ZZ = trx b5 (some ⟨fb, 0, none⟩) [p0, p1, p2] Ls.length Ts4 (some (Fu.new 0)) * (pts gl (.cells #[pp p0, pp p1, pp p2] 43 (0, 0)) * (pts (W.heap.size + 1) (.cells #[.int .i64 q0, .int .i64 q1, .int .i64 q2] 34 (0, 0)) * Z)) := ⟨_, rfl⟩
                          rw [← hR8] at s18
                          obtain ⟨A5, c5, rfl, h51, h52, h53, h54⟩ := hbr.val
                          have S18 := Lib.hid s18
                          have Hln := Lib.hid hLn
                          have Hbr := Lib.hid hbr
                          have H53 := Lib.hid h53
                          have H54 := Lib.hid h54
                          have HLs := Lib.hid hLs
                          have Hget := Lib.hid hget
                          clear hbr h53 h54 hLs hget
                          clear s18 h S16 Hop hR8 hLn
                          go_wp2_with fail
                          go_loopw [28] (fun i wr => ∃ j : Nat, j ≤ Ls.length ∧ i = .int .i64 j ∧ St W.heap.size W wr (X * R8)) (fun i _ => Ls.length - (intOf i).toNat)
                          case atStart => exact ⟨0, Nat.zero_le _, rfl, S18.out⟩
                          case round =>
                            obtain ⟨j, hj, rfl, s19⟩ := hrel
                            clear S18
                            by_cases hjt : j < Ls.length
                            · have t3 : (j : Int) < (Ls.length : Int) := by omega
                              have hg := Hget.out j hjt
                              obtain ⟨u, hu, hbu⟩ := Hbr.out.at' wr R8 (s19.eq (sep_comm _ _)) j hjt
                              obtain ⟨aj, cj, rfl, -⟩ := id hbu
                              have hne : vs5 ≠ [] := by intro e; rw [e] at hu; simp at hu
                              obtain ⟨bg, og, rfl, -⟩ := (H54.out wr R8 (s19.eq (sep_comm _ _))).at hne
                              have hcg : ∀ w, St W.heap.size W w (X * R8) → w.cell? ⟨bg, og + j, none⟩ = some (.slice aj Ls[j].length cj) := fun w s => by
                                obtain ⟨_, _, e, hc⟩ := (H54.out w R8 (s.eq (sep_comm _ _))).at hne
                                cases e
                                exact hc j _ hu
                              have hbg : ∀ w, St W.heap.size W w (X * R8) → BS w (.slice aj Ls[j].length cj) Ls[j] := fun w s => by
                                obtain ⟨u', hu', hb'⟩ := Hbr.out.at' w R8 (s.eq (sep_comm _ _)) j hjt
                                rw [hu] at hu'
                                cases hu'
                                exact hb'
                              generalize Ls[j] = lj at *
                              have S19 := Lib.hid s19
                              have Hcg := Lib.hid hcg
                              have Hbg := Lib.hid hbg
                              clear hcg hbg
                              clear s19 hbu hu
                              rcases hg with ⟨hjk, hjr, hlj⟩ | ⟨hjk, hlj⟩
                              · obtain ⟨-, -, -, -, us, hru, hlv, hbu⟩ := Hrs.out.open'
                                obtain ⟨u, hu, hbu⟩ := hbu j hjr
                                rw [← hlj] at hbu
                                obtain ⟨ar, cr, rfl, -⟩ := id hbu
                                obtain ⟨b1, o1, rfl, hc⟩ := hru.at (by rintro rfl; rw [List.length_nil] at hlv; omega)
                                have hcr : ∀ w, St W.heap.size W w (X * R8) → w.cell? ⟨b1, o1 + j, none⟩ = some (.slice ar lj.length cr) := fun w s => Add.cell s.below (hc j _ hu)
                                have hbr2 : ∀ w, St W.heap.size W w (X * R8) → BS w (.slice ar lj.length cr) lj := fun w s => hbu.below s.below
                                have t4 : (j : Int) < (rs.length : Int) := by omega
                                have t5 : (j : Int) < 10 := by omega
                                have t6 : ¬ (k : Int) ≤ (j : Int) := by omega
                                have Hcr := Lib.hid hcr
                                have Hbr2 := Lib.hid hbr2
                                clear hcr hbr2
                                clear hru hlv hbu hu hc hlj
                                go_wp2_with fail
                                refine wp_region_rx (fun _ w' => St W.heap.size W w' (X * R8)) [] mixed (by kernel_rfl) (by kernel_rfl) S19.out.drew ?_
                                refine RXl.exact (.int .i64 j) rfl rfl rfl rfl rfl (fun _ _ _ _ _ => rfl) ?_
                                refine RXl.exact (.slice (some ⟨b1, o1, none⟩) rs.length ca) rfl rfl rfl rfl rfl (fun _ _ _ _ _ => rfl) ?_
                                refine RXl.exact (.int .i64 rs.length) rfl rfl rfl rfl rfl (fun j τ w' hj hJ => by simp [rho, upd, Spec.val, execOp, go_sem, resolve, invoke, builtin]) ?_
                                refine RXl.exact (.bool true) rfl rfl rfl rfl rfl (fun j τ w' hj hJ => by simp [rho, upd, Spec.val, execOp, go_sem, t4]) ?_
                                refine RXl.exact (.bool true) rfl rfl rfl rfl rfl (fun _ _ _ _ _ => rfl) ?_
                                refine RXl.exact (.int .i64 j) rfl rfl rfl rfl rfl (fun _ _ _ _ _ => rfl) ?_
                                refine RXl.exact (.bool true) rfl rfl rfl rfl rfl (fun j τ w' hj hJ => by simp [rho, upd, Spec.val, execOp, go_sem, t5]) ?_
                                refine RXl.exact (.bool true) rfl rfl rfl rfl rfl (fun _ _ _ _ _ => rfl) ?_
                                refine RXl.exact (.bool true) rfl rfl rfl rfl rfl (fun _ _ _ _ _ => rfl) ?_
                                refine RXl.exact (.slice (some ⟨bg, og, none⟩) Ls.length c5) rfl rfl rfl rfl rfl (fun _ _ _ _ _ => rfl) ?_
                                refine RXl.exact (.int .i64 j) rfl rfl rfl rfl rfl (fun _ _ _ _ _ => rfl) ?_
                                refine RXl.exact (.pointer (some ⟨bg, og + j, none⟩)) rfl rfl rfl rfl rfl (fun j τ w' hj hJ => by simp [rho, upd, Spec.val, execOp, go_sem, t3]) ?_
                                refine RXl.exact (.slice aj lj.length cj) rfl rfl rfl rfl rfl (fun j τ w' hj hJ => by have c := Hcg.out _ hJ; simp [rho, upd, Spec.val, execOp, go_sem, c]) ?_
                                refine RXl.exact (str lj) rfl rfl rfl rfl rfl (fun j τ w' hj hJ => exec_convert rfl (run_str Try.underlying23 Try.underlying5 Try.underlying9 (Hbg.out _ hJ))) ?_
                                refine RXl.exact (.slice (some ⟨b1, o1, none⟩) rs.length ca) rfl rfl rfl rfl rfl (fun _ _ _ _ _ => rfl) ?_
                                refine RXl.exact (.int .i64 j) rfl rfl rfl rfl rfl (fun _ _ _ _ _ => rfl) ?_
                                refine RXl.exact (.pointer (some ⟨b1, o1 + j, none⟩)) rfl rfl rfl rfl rfl (fun j τ w' hj hJ => by simp [rho, upd, Spec.val, execOp, go_sem, t4]) ?_
                                refine RXl.exact (.slice ar lj.length cr) rfl rfl rfl rfl rfl (fun j τ w' hj hJ => by have c := Hcr.out _ hJ; simp [rho, upd, Spec.val, execOp, go_sem, c]) ?_
                                refine RXl.exact (str lj) rfl rfl rfl rfl rfl (fun j τ w' hj hJ => exec_convert rfl (run_str Try.underlying23 Try.underlying5 Try.underlying9 (Hbr2.out _ hJ))) ?_
                                refine RXl.exact (.bool false) rfl rfl rfl rfl rfl (fun j τ w' hj hJ => by simp [rho, upd, Spec.val, execOp, go_sem]) ?_
                                refine RXl.exact (.bool false) rfl rfl rfl rfl rfl (fun _ _ _ _ _ => rfl) ?_
                                refine RXl.exact (.bool false) rfl rfl rfl rfl rfl (fun _ _ _ _ _ => rfl) ?_
                                refine RXl.exact (.int .i64 j) rfl rfl rfl rfl rfl (fun _ _ _ _ _ => rfl) ?_
                                refine RXl.exact (.slice (some ⟨b1, o1, none⟩) rs.length ca) rfl rfl rfl rfl rfl (fun _ _ _ _ _ => rfl) ?_
                                refine RXl.exact (.int .i64 rs.length) rfl rfl rfl rfl rfl (fun j τ w' hj hJ => by simp [rho, upd, Spec.val, execOp, go_sem, resolve, invoke, builtin]) ?_
                                refine RXl.exact (.int .i64 k) rfl rfl rfl rfl rfl (fun j τ w' hj hJ => by simp [rho, upd, Spec.val, execOp, go_sem, resolve, invoke, builtin, Hmi.out]) ?_
                                refine RXl.exact (.bool false) rfl rfl rfl rfl rfl (fun j τ w' hj hJ => by simp [rho, upd, Spec.val, execOp, go_sem]; exact hjk) ?_
                                refine RXl.exact (.bool false) rfl rfl rfl rfl rfl (fun _ _ _ _ _ => rfl) ?_
                                refine RXl.skip rfl rfl rfl rfl ?_
                                refine RXl.skip rfl rfl rfl rfl ?_
                                refine RXl.skip rfl rfl rfl rfl ?_
                                refine RXl.skip rfl rfl rfl rfl ?_
                                refine RXl.skip rfl rfl rfl rfl ?_
                                refine RXl.skip rfl rfl rfl rfl ?_
                                refine RXl.skip rfl rfl rfl rfl ?_
                                refine RXl.skip rfl rfl rfl rfl ?_
                                refine RXl.exact (.bool false) rfl rfl rfl rfl rfl (fun _ _ _ _ _ => rfl) ?_
                                refine RXl.exact (.bool false) rfl rfl rfl rfl rfl (fun _ _ _ _ _ => rfl) ?_
                                refine RXl.nilx _ (Agr.upd _ _ (Agr.upd _ _ (Agr.upd _ _ (Agr.upd _ _ (Agr.upd _ _ (Agr.upd _ _ (Agr.upd _ _ (Agr.upd _ _ (Agr.upd _ _ (Agr.upd _ _ (Agr.upd _ _ (Agr.upd _ _ (Agr.upd _ _ (Agr.upd _ _ (Agr.upd _ _ (Agr.upd _ _ (Agr.upd _ _ (Agr.upd _ _ (Agr.upd _ _ (Agr.upd _ _ (Agr.upd _ _ (Agr.upd _ _ (Agr.upd _ _ (Agr.upd _ _ (Agr.upd _ _ (Agr.upd _ _ (Agr.upd _ _ (Agr.upd _ _ (Agr.upd _ _ (Agr.upd _ _ (Agr.upd _ _ (Agr.upd _ _ (Agr.upd _ _ (Agr.upd _ _ (Agr.upd _ _ (Agr.upd _ _ (Agr.upd _ _ (Agr.upd _ _ (Agr.base _))))))))))))))))))))))))))))))))))))))) fun w22 hJ => ?_
                                obtain ⟨_, hJ⟩ := hJ
                                simp only [Act.put, List.setIfInBounds_toArray, List.set_cons_succ, List.set_cons_zero]
                                have S20 := Lib.hid (show St W.heap.size W w22 (X * R8) from hJ)
                                clear hJ S19
                                go_wp2_with fail
                                go_roundw
                                case rel => exact ⟨j + 1, by omega, by go_num, S20.out⟩
                                case measure => simp [intOf]; omega
                              · have t7 : (k : Int) ≤ (j : Int) := by omega
                                have hbr2 : ∀ w, St W.heap.size W w (X * R8) → BS w (.slice a1 r.length c1) r := fun w s => Hr.out.st rfl s
                                have Hbr2 := Lib.hid hbr2
                                have Hlj := Lib.hid hlj
                                clear hbr2 hlj
                                go_wp2_with fail
                                refine wp_region_rx (fun _ w' => St W.heap.size W w' (X * R8)) [] mixed (by kernel_rfl) (by kernel_rfl) S19.out.drew ?_
                                refine RXl.exact (.int .i64 j) rfl rfl rfl rfl rfl (fun _ _ _ _ _ => rfl) ?_
                                refine RXl.exact (.slice a rs.length ca) rfl rfl rfl rfl rfl (fun _ _ _ _ _ => rfl) ?_
                                refine RXl.exact (.int .i64 rs.length) rfl rfl rfl rfl rfl (fun j τ w' hj hJ => by simp [rho, upd, Spec.val, execOp, go_sem, resolve, invoke, builtin]) ?_
                                refine RXl.exact (.bool true) rfl rfl rfl rfl rfl (fun j τ w' hj hJ => by simp [rho, upd, Spec.val, execOp, go_sem] <;> omega) ?_
                                refine RXl.exact (.bool true) rfl rfl rfl rfl rfl (fun _ _ _ _ _ => rfl) ?_
                                refine RXl.exact (.int .i64 j) rfl rfl rfl rfl rfl (fun _ _ _ _ _ => rfl) ?_
                                refine RXl.exact (.bool false) rfl rfl rfl rfl rfl (fun j τ w' hj hJ => by simp [rho, upd, Spec.val, execOp, go_sem] <;> omega) ?_
                                refine RXl.exact (.bool false) rfl rfl rfl rfl rfl (fun _ _ _ _ _ => rfl) ?_
                                refine RXl.exact (.bool false) rfl rfl rfl rfl rfl (fun _ _ _ _ _ => rfl) ?_
                                refine RXl.skip rfl rfl rfl rfl ?_
                                refine RXl.skip rfl rfl rfl rfl ?_
                                refine RXl.skip rfl rfl rfl rfl ?_
                                refine RXl.skip rfl rfl rfl rfl ?_
                                refine RXl.skip rfl rfl rfl rfl ?_
                                refine RXl.skip rfl rfl rfl rfl ?_
                                refine RXl.skip rfl rfl rfl rfl ?_
                                refine RXl.skip rfl rfl rfl rfl ?_
                                refine RXl.skip rfl rfl rfl rfl ?_
                                refine RXl.skip rfl rfl rfl rfl ?_
                                refine RXl.skip rfl rfl rfl rfl ?_
                                refine RXl.exact (.bool false) rfl rfl rfl rfl rfl (fun _ _ _ _ _ => rfl) ?_
                                refine RXl.exact (.bool false) rfl rfl rfl rfl rfl (fun _ _ _ _ _ => rfl) ?_
                                refine RXl.exact (.int .i64 j) rfl rfl rfl rfl rfl (fun _ _ _ _ _ => rfl) ?_
                                refine RXl.exact (.slice a rs.length ca) rfl rfl rfl rfl rfl (fun _ _ _ _ _ => rfl) ?_
                                refine RXl.exact (.int .i64 rs.length) rfl rfl rfl rfl rfl (fun j τ w' hj hJ => by simp [rho, upd, Spec.val, execOp, go_sem, resolve, invoke, builtin]) ?_
                                refine RXl.exact (.int .i64 k) rfl rfl rfl rfl rfl (fun j τ w' hj hJ => by simp [rho, upd, Spec.val, execOp, go_sem, resolve, invoke, builtin, Hmi.out]) ?_
                                refine RXl.exact (.bool true) rfl rfl rfl rfl rfl (fun j τ w' hj hJ => by simp [rho, upd, Spec.val, execOp, go_sem] <;> omega) ?_
                                refine RXl.exact (.bool true) rfl rfl rfl rfl rfl (fun _ _ _ _ _ => rfl) ?_
                                refine RXl.exact (.slice (some ⟨bg, og, none⟩) Ls.length c5) rfl rfl rfl rfl rfl (fun _ _ _ _ _ => rfl) ?_
                                refine RXl.exact (.int .i64 j) rfl rfl rfl rfl rfl (fun _ _ _ _ _ => rfl) ?_
                                refine RXl.exact (.pointer (some ⟨bg, og + j, none⟩)) rfl rfl rfl rfl rfl (fun j τ w' hj hJ => by simp [rho, upd, Spec.val, execOp, go_sem, t3]) ?_
                                refine RXl.exact (.slice aj lj.length cj) rfl rfl rfl rfl rfl (fun j τ w' hj hJ => by have c := Hcg.out _ hJ; simp [rho, upd, Spec.val, execOp, go_sem, c]) ?_
                                refine RXl.exact (str lj) rfl rfl rfl rfl rfl (fun j τ w' hj hJ => exec_convert rfl (run_str Try.underlying23 Try.underlying5 Try.underlying9 (Hbg.out _ hJ))) ?_
                                refine RXl.exact (.slice a1 r.length c1) rfl rfl rfl rfl rfl (fun _ _ _ _ _ => rfl) ?_
                                refine RXl.exact (str lj) rfl rfl rfl rfl rfl (fun j τ w' hj hJ => by rw [Hlj.out]; exact exec_convert rfl (run_str Try.underlying23 Try.underlying5 Try.underlying9 (Hbr2.out _ hJ))) ?_
                                refine RXl.exact (.bool false) rfl rfl rfl rfl rfl (fun j τ w' hj hJ => by simp [rho, upd, Spec.val, execOp, go_sem]) ?_
                                refine RXl.exact (.bool false) rfl rfl rfl rfl rfl (fun _ _ _ _ _ => rfl) ?_
                                refine RXl.exact (.bool false) rfl rfl rfl rfl rfl (fun _ _ _ _ _ => rfl) ?_
                                refine RXl.nilx _ (Agr.upd _ _ (Agr.upd _ _ (Agr.upd _ _ (Agr.upd _ _ (Agr.upd _ _ (Agr.upd _ _ (Agr.upd _ _ (Agr.upd _ _ (Agr.upd _ _ (Agr.upd _ _ (Agr.upd _ _ (Agr.upd _ _ (Agr.upd _ _ (Agr.upd _ _ (Agr.upd _ _ (Agr.upd _ _ (Agr.upd _ _ (Agr.upd _ _ (Agr.upd _ _ (Agr.upd _ _ (Agr.upd _ _ (Agr.upd _ _ (Agr.upd _ _ (Agr.upd _ _ (Agr.upd _ _ (Agr.upd _ _ (Agr.upd _ _ (Agr.upd _ _ (Agr.upd _ _ (Agr.upd _ _ (Agr.upd _ _ (Agr.upd _ _ (Agr.upd _ _ (Agr.upd _ _ (Agr.upd _ _ (Agr.upd _ _ (Agr.upd _ _ (Agr.upd _ _ (Agr.base _))))))))))))))))))))))))))))))))))))))) fun w22 hJ => ?_
                                obtain ⟨_, hJ⟩ := hJ
                                simp only [Act.put, List.setIfInBounds_toArray, List.set_cons_succ, List.set_cons_zero]
                                have S20 := Lib.hid (show St W.heap.size W w22 (X * R8) from hJ)
                                clear hJ S19
                                go_wp2_with fail
                                go_roundw
                                case rel => exact ⟨j + 1, by omega, by go_num, S20.out⟩
                                case measure => simp [intOf]; omega
                            · obtain rfl : j = Ls.length := by omega
                              have S19 := Lib.hid s19
                              clear s19
                              go_wp2_with fail
                              refine (awake_calls _).mono ?_
                              rintro e w20 ⟨rfl, h2⟩
                              have HA := Lib.hid (S19.out.keep h2)
                              clear h2 S19
                              go_wp2_with fail
                              go_ret
                              exact ⟨rfl, HA.out.below⟩
              · have hwI : ¬ (2 : Int) ≤ (wn : Int) := by omega
                have Hwt := Lib.hid (show ((L ++ tl false r).length : Int) = (10 : Int) by rw [lt_len, HlL.out]; (first | omega | (simp; omega) | (simp; done)))
                have hiv2 := Hiv.out
                rw [decide_eq_false hw2] at hiv2
                clear Hiv
                have Hiv := Lib.hid hiv2
                clear hiv2
                go_wp2_with fail
                as_aux_lemma =>
                  go_loopw [20] (fun i wr => ∃ (q : Nat) (Ts : List Tp) (F : Fu) (Z : HP), q ≤ fs.length ∧ q ≤ 6 ∧ i = .int .i64 q ∧ Iv L r false Ts ∧ (∀ i, i < 3 → TY L r (Ts.getD i Tp.new)) ∧ St W.heap.size W wr (tps (some ⟨fb, 0, none⟩) [p0, p1, p2] Ts * (fz (.pointer (some ⟨fb, 0, none⟩)) (some F) * (pts gl (.cells #[pp p0, pp p1, pp p2] 43 (0, 0)) * (pts (W.heap.size + 1) (.cells #[.int .i64 q0, .int .i64 q1, .int .i64 q2] 34 (0, 0)) * Z))))) (fun i _ => 6 - (intOf i).toNat)
                  case atStart => exact ⟨0, Ts, Fu.new 0, row 5 1 (.slice a2 nb c2) nb (bvs (jn1 r)) * (tro b p0 p1 p2 k * (pts W.heap.size (.cells #[.int .i64 n0, .int .i64 n1, .int .i64 n2] 34 (0, 0)) * emp)), Nat.zero_le _, by omega, rfl, Hiv.out, Hty.out, S14.out.eq (by rw [← HY.out]; ac_rfl)⟩
                  case round =>
                    obtain ⟨q, Ts3, F3, Z, hq, hq6, rfl, hiv3, hty3, s15⟩ := hrel
                    clear S14 Hiv Hty
                    have hT3 : Ts3.length = 3 := by obtain ⟨_, _, _, rfl, -⟩ := hiv3; rfl
                    have hjL : (jn L).length + (jn1 r).length ≤ 65536 := by have := Hnb.out; omega
                    by_cases hqt : q < fs.length ∧ q < 6
                    · obtain ⟨hqt, hqt6⟩ := hqt
                      have g1 : (q : Int) < (fs.length : Int) := by omega
                      have g2 : (q : Int) < 6 := by omega
                      obtain ⟨b3, o3, rfl⟩ := Hfs.out.head (by omega)
                      have cq := (Hfs.out.st rfl s15).cellAt q hqt
                      have k1 := and_m3 fs[q]
                      obtain ⟨yq, hyq, hyq8⟩ : ∃ y : Nat, fs[q] % 8 = (y : Int) ∧ y < 8 := ⟨(fs[q] % 8).toNat, by omega, by omega⟩
                      rw [hyq] at k1
                      generalize fs[q] = fq at *
                      have S15 := Lib.hid (s15.eq (Q := fz (.pointer (some ⟨fb, 0, none⟩)) (some F3) * (tps (some ⟨fb, 0, none⟩) [p0, p1, p2] Ts3 * (pts gl (.cells #[pp p0, pp p1, pp p2] 43 (0, 0)) * (pts (W.heap.size + 1) (.cells #[.int .i64 q0, .int .i64 q1, .int .i64 q2] 34 (0, 0)) * Z)))) (by ac_rfl))
                      obtain ⟨F', Ts4, hF', hFs, hiv4, hop⟩ := open_iv W.heap.size W p0 p1 p2 (some ⟨fb, 0, none⟩) (pts gl (.cells #[pp p0, pp p1, pp p2] 43 (0, 0)) * (pts (W.heap.size + 1) (.cells #[.int .i64 q0, .int .i64 q1, .int .i64 q2] 34 (0, 0)) * Z)) (F := some ⟨yq + 1, true⟩) (.inr ⟨_, rfl⟩) HokL.out Hor.out hiv3 hjL
                      obtain ⟨F4, rfl⟩ : ∃ F4, F' = some F4 := Option.isSome_iff_exists.1 (hFs rfl)
                      have Hop := Lib.hid hop
                      have Hiv4 := Lib.hid hiv4
                      clear hop hiv4
                      clear s15 hyq hiv3 hty3 hF' hFs
                      go_wp2_with fail
                      refine (set_calls _ _ ((yq : Int) + 1) _ (by omega) S15.out).mono ?_
                      rintro e w16 ⟨rfl, s16⟩
                      rw [show Fu.new ((yq : Int) + 1) = ⟨yq + 1, true⟩ by unfold Fu.new; congr 1; exact decide_eq_true (by omega)] at s16
                      have s17 := s16.eq (Q := pts gl (.cells #[pp p0, pp p1, pp p2] 43 (0, 0)) * (fz (.pointer (some ⟨fb, 0, none⟩)) (some ⟨yq + 1, true⟩) * (tps (some ⟨fb, 0, none⟩) [p0, p1, p2] Ts3 * (pts (W.heap.size + 1) (.cells #[.int .i64 q0, .int .i64 q1, .int .i64 q2] 34 (0, 0)) * Z)))) (by ac_rfl)
                      have c0 := s17.cell 0
                      have c1' := s17.cell 1
                      have c2' := s17.cell 2
                      simp at c0 c1' c2'
                      have S16 := Lib.hid s16
                      clear s16 s17 S15
                      go_wp2_with fail
                      clear c0 c1' c2'
                      refine (open_calls (some ⟨yq + 1, true⟩) Ts3 p0 p1 p2 (some ⟨fb, 0, none⟩) hT3 w16 (R := pts gl (.cells #[pp p0, pp p1, pp p2] 43 (0, 0)) * (pts (W.heap.size + 1) (.cells #[.int .i64 q0, .int .i64 q1, .int .i64 q2] 34 (0, 0)) * Z)) (S16.out.eq (by ac_rfl))).mono ?_
                      intro e w17 h
                      rcases Hop.out with hy | hn
                      · obtain ⟨X, b5, v5, vs5, rfl, hbr, s18⟩ := hy _ _ h
                        obtain ⟨A5, c5, rfl, -, -, -, -⟩ := hbr.val
                        have hwt2 : (((L ++ tl false r).length : Int) != (10 : Int)) = false := by rw [Hwt.out]; simp
                        obtain ⟨ln, hln⟩ : ∃ n, (L ++ tl false r).length = n := ⟨_, rfl⟩
                        rw [hln] at hwt2 s18
                        rw [hln]
                        have S18 := Lib.hid (s18.eq (Q := tps (some ⟨fb, 0, none⟩) [p0, p1, p2] Ts4 * (pts gl (.cells #[pp p0, pp p1, pp p2] 43 (0, 0)) * (pts (W.heap.size + 1) (.cells #[.int .i64 q0, .int .i64 q1, .int .i64 q2] 34 (0, 0)) * (fz (.pointer (some ⟨fb, 0, none⟩)) (some F4) * (X * (tro b5 p0 p1 p2 ln * Z)))))) (by rw [trx_eq]; ac_rfl))
                        generalize X * (tro b5 p0 p1 p2 ln * Z) = Z5 at *
                        clear s18 hbr h S16 Hop hy hln
                        as_aux_lemma =>
                          obtain ⟨T0, T1, T2, hTs, -⟩ := id Hiv4.out
                          subst hTs
                          have S19 := Lib.hid (show St W.heap.size W w17 (CQ (W.heap.size + 1) (some ⟨fb, 0, none⟩) p0 p1 p2 gl q0 q1 q2 T0 T1 T2 (fz (.pointer (some ⟨fb, 0, none⟩)) (some F4) * Z5) 0) from S18.out)
                          clear S18
                          go_wp2_with fail
                          go_loopw [24] (fun i wr => ∃ j : Nat, j ≤ 3 ∧ i = .int .i64 j ∧ St W.heap.size W wr (CQ (W.heap.size + 1) (some ⟨fb, 0, none⟩) p0 p1 p2 gl q0 q1 q2 T0 T1 T2 (fz (.pointer (some ⟨fb, 0, none⟩)) (some F4) * Z5) j)) (fun i _ => 3 - (intOf i).toNat)
                          case atStart => exact ⟨0, Nat.zero_le _, rfl, S19.out⟩
                          case round =>
                            obtain ⟨j, hj, rfl, s20⟩ := hrel
                            clear S19
                            by_cases hjt : j < 3
                            · have hjI : (j : Int) < 3 := by omega
                              obtain ⟨pj, hpj⟩ : ∃ z, [p0, p1, p2].getD j 0 = z := ⟨_, rfl⟩
                              obtain ⟨nj, hnj⟩ : ∃ z, [q0, q1, q2].getD j 0 = z := ⟨_, rfl⟩
                              have hg1 := fun (m : Nat) (w : World) (s : St W.heap.size W w (CQ (W.heap.size + 1) (some ⟨fb, 0, none⟩) p0 p1 p2 gl q0 q1 q2 T0 T1 T2 (fz (.pointer (some ⟨fb, 0, none⟩)) (some F4) * Z5) m)) => (cq_cell s j hjt).1
                              have hg2 := fun (m : Nat) (w : World) (s : St W.heap.size W w (CQ (W.heap.size + 1) (some ⟨fb, 0, none⟩) p0 p1 p2 gl q0 q1 q2 T0 T1 T2 (fz (.pointer (some ⟨fb, 0, none⟩)) (some F4) * Z5) m)) => (cq_cell s j hjt).2
                              have hcc := fun (w : World) (s : St W.heap.size W w (CQ (W.heap.size + 1) (some ⟨fb, 0, none⟩) p0 p1 p2 gl q0 q1 q2 T0 T1 T2 (fz (.pointer (some ⟨fb, 0, none⟩)) (some F4) * Z5) j)) => cq_crash s hm0 hm1 hm2 hjt
                              rw [hpj] at hg1 hcc
                              rw [hnj] at hg2 hcc
                              have S20 := Lib.hid s20
                              have Hg1 := Lib.hid hg1
                              have Hg2 := Lib.hid hg2
                              have Hcc := Lib.hid hcc
                              clear hg1 hg2 hcc
                              clear s20 hpj hnj
                              go_wp2_with fail
                              refine wp_region_rx (fun i w => St W.heap.size W w (CQ (W.heap.size + 1) (some ⟨fb, 0, none⟩) p0 p1 p2 gl q0 q1 q2 T0 T1 T2 (fz (.pointer (some ⟨fb, 0, none⟩)) (some F4) * Z5) (if i = 0 then j else j + 1))) [6] mixed (by kernel_rfl) (by kernel_rfl) S20.out.drew ?_
                              refine RXl.exact (.int .i64 j) rfl rfl rfl rfl rfl (fun _ _ _ _ _ => rfl) ?_
                              refine RXl.exact (.pointer (some ⟨gl, j, none⟩)) rfl rfl rfl rfl rfl (fun j τ w' hj hJ => by simp [rho, upd, Spec.val, execOp, go_sem, hjI]) ?_
                              refine RXl.exact (pp pj) rfl rfl rfl rfl rfl (fun j τ w' hj hJ => by have c := Hg1.out _ _ hJ; simp [rho, upd, Spec.val, execOp, go_sem, c]) ?_
                              refine RXl.exact (.int .i64 j) rfl rfl rfl rfl rfl (fun _ _ _ _ _ => rfl) ?_
                              refine RXl.exact (.pointer (some ⟨W.heap.size + 1, j, none⟩)) rfl rfl rfl rfl rfl (fun j τ w' hj hJ => by simp [rho, upd, Spec.val, execOp, go_sem, hjI]) ?_
                              refine RXl.exact (.int .i64 nj) rfl rfl rfl rfl rfl (fun j τ w' hj hJ => by have c := Hg2.out _ _ hJ; simp [rho, upd, Spec.val, execOp, go_sem, c]) ?_
                              refine RXl.callj 0 (.tuple #[]) _ [pp pj, .int .i64 nj] [.tmp 191, .tmp 194] _ rfl rfl rfl rfl rfl rfl (fun _ => rfl) (fun w' hJ => Hcc.out w' hJ) ?_
                              refine RXl.nilx _ (Agr.upd _ _ (Agr.upd _ _ (Agr.upd _ _ (Agr.upd _ _ (Agr.upd _ _ (Agr.upd _ _ (Agr.upd _ _ (Agr.base _)))))))) fun w21 hJ => ?_
                              obtain ⟨_, hJ⟩ := hJ
                              simp only [Act.put, List.setIfInBounds_toArray, List.set_cons_succ, List.set_cons_zero]
                              have S21 := Lib.hid (show St W.heap.size W w21 (CQ (W.heap.size + 1) (some ⟨fb, 0, none⟩) p0 p1 p2 gl q0 q1 q2 T0 T1 T2 (fz (.pointer (some ⟨fb, 0, none⟩)) (some F4) * Z5) (j + 1)) from hJ)
                              clear hJ S20
                              go_wp2_with fail
                              go_roundw
                              case rel => exact ⟨j + 1, by omega, by go_num, S21.out⟩
                              case measure => simp [intOf]; omega
                            · obtain rfl : j = 3 := by omega
                              have hiv6 := Hiv4.out.crash q0 q1 q2
                              have hty6 := Hiv4.out.crash_ty q0 q1 q2
                              unfold CQ at s20
                              generalize crs T0 T1 T2 q0 q1 q2 3 = Ts6 at *
                              have S21 := Lib.hid s20
                              have Hiv6 := Lib.hid hiv6
                              have Hty6 := Lib.hid hty6
                              clear hiv6 hty6
                              clear s20
                              go_wp2_with fail
                              go_roundw
                              case rel => exact ⟨q + 1, Ts6, F4, Z5, by omega, by omega, by go_num, Hiv6.out, Hty6.out, S21.out.eq (by ac_rfl)⟩
                              case measure => simp [intOf]; omega
                      · obtain ⟨rfl, s18⟩ := hn _ _ h
                        have S18 := Lib.hid (s18.eq (Q := tps (some ⟨fb, 0, none⟩) [p0, p1, p2] Ts4 * (pts gl (.cells #[pp p0, pp p1, pp p2] 43 (0, 0)) * (pts (W.heap.size + 1) (.cells #[.int .i64 q0, .int .i64 q1, .int .i64 q2] 34 (0, 0)) * (fz (.pointer (some ⟨fb, 0, none⟩)) (some F4) * Z)))) (by ac_rfl))
                        generalize Z = Z5 at *
                        clear s18 h S16 Hop hn
                        as_aux_lemma =>
                          obtain ⟨T0, T1, T2, hTs, -⟩ := id Hiv4.out
                          subst hTs
                          have S19 := Lib.hid (show St W.heap.size W w17 (CQ (W.heap.size + 1) (some ⟨fb, 0, none⟩) p0 p1 p2 gl q0 q1 q2 T0 T1 T2 (fz (.pointer (some ⟨fb, 0, none⟩)) (some F4) * Z5) 0) from S18.out)
                          clear S18
                          go_wp2_with fail
                          go_loopw [24] (fun i wr => ∃ j : Nat, j ≤ 3 ∧ i = .int .i64 j ∧ St W.heap.size W wr (CQ (W.heap.size + 1) (some ⟨fb, 0, none⟩) p0 p1 p2 gl q0 q1 q2 T0 T1 T2 (fz (.pointer (some ⟨fb, 0, none⟩)) (some F4) * Z5) j)) (fun i _ => 3 - (intOf i).toNat)
                          case atStart => exact ⟨0, Nat.zero_le _, rfl, S19.out⟩
                          case round =>
                            obtain ⟨j, hj, rfl, s20⟩ := hrel
                            clear S19
                            by_cases hjt : j < 3
                            · have hjI : (j : Int) < 3 := by omega
                              obtain ⟨pj, hpj⟩ : ∃ z, [p0, p1, p2].getD j 0 = z := ⟨_, rfl⟩
                              obtain ⟨nj, hnj⟩ : ∃ z, [q0, q1, q2].getD j 0 = z := ⟨_, rfl⟩
                              have hg1 := fun (m : Nat) (w : World) (s : St W.heap.size W w (CQ (W.heap.size + 1) (some ⟨fb, 0, none⟩) p0 p1 p2 gl q0 q1 q2 T0 T1 T2 (fz (.pointer (some ⟨fb, 0, none⟩)) (some F4) * Z5) m)) => (cq_cell s j hjt).1
                              have hg2 := fun (m : Nat) (w : World) (s : St W.heap.size W w (CQ (W.heap.size + 1) (some ⟨fb, 0, none⟩) p0 p1 p2 gl q0 q1 q2 T0 T1 T2 (fz (.pointer (some ⟨fb, 0, none⟩)) (some F4) * Z5) m)) => (cq_cell s j hjt).2
                              have hcc := fun (w : World) (s : St W.heap.size W w (CQ (W.heap.size + 1) (some ⟨fb, 0, none⟩) p0 p1 p2 gl q0 q1 q2 T0 T1 T2 (fz (.pointer (some ⟨fb, 0, none⟩)) (some F4) * Z5) j)) => cq_crash s hm0 hm1 hm2 hjt
                              rw [hpj] at hg1 hcc
                              rw [hnj] at hg2 hcc
                              have S20 := Lib.hid s20
                              have Hg1 := Lib.hid hg1
                              have Hg2 := Lib.hid hg2
                              have Hcc := Lib.hid hcc
                              clear hg1 hg2 hcc
                              clear s20 hpj hnj
                              go_wp2_with fail
                              refine wp_region_rx (fun i w => St W.heap.size W w (CQ (W.heap.size + 1) (some ⟨fb, 0, none⟩) p0 p1 p2 gl q0 q1 q2 T0 T1 T2 (fz (.pointer (some ⟨fb, 0, none⟩)) (some F4) * Z5) (if i = 0 then j else j + 1))) [6] mixed (by kernel_rfl) (by kernel_rfl) S20.out.drew ?_
                              refine RXl.exact (.int .i64 j) rfl rfl rfl rfl rfl (fun _ _ _ _ _ => rfl) ?_
                              refine RXl.exact (.pointer (some ⟨gl, j, none⟩)) rfl rfl rfl rfl rfl (fun j τ w' hj hJ => by simp [rho, upd, Spec.val, execOp, go_sem, hjI]) ?_
                              refine RXl.exact (pp pj) rfl rfl rfl rfl rfl (fun j τ w' hj hJ => by have c := Hg1.out _ _ hJ; simp [rho, upd, Spec.val, execOp, go_sem, c]) ?_
                              refine RXl.exact (.int .i64 j) rfl rfl rfl rfl rfl (fun _ _ _ _ _ => rfl) ?_
                              refine RXl.exact (.pointer (some ⟨W.heap.size + 1, j, none⟩)) rfl rfl rfl rfl rfl (fun j τ w' hj hJ => by simp [rho, upd, Spec.val, execOp, go_sem, hjI]) ?_
                              refine RXl.exact (.int .i64 nj) rfl rfl rfl rfl rfl (fun j τ w' hj hJ => by have c := Hg2.out _ _ hJ; simp [rho, upd, Spec.val, execOp, go_sem, c]) ?_
                              refine RXl.callj 0 (.tuple #[]) _ [pp pj, .int .i64 nj] [.tmp 191, .tmp 194] _ rfl rfl rfl rfl rfl rfl (fun _ => rfl) (fun w' hJ => Hcc.out w' hJ) ?_
                              refine RXl.nilx _ (Agr.upd _ _ (Agr.upd _ _ (Agr.upd _ _ (Agr.upd _ _ (Agr.upd _ _ (Agr.upd _ _ (Agr.upd _ _ (Agr.base _)))))))) fun w21 hJ => ?_
                              obtain ⟨_, hJ⟩ := hJ
                              simp only [Act.put, List.setIfInBounds_toArray, List.set_cons_succ, List.set_cons_zero]
                              have S21 := Lib.hid (show St W.heap.size W w21 (CQ (W.heap.size + 1) (some ⟨fb, 0, none⟩) p0 p1 p2 gl q0 q1 q2 T0 T1 T2 (fz (.pointer (some ⟨fb, 0, none⟩)) (some F4) * Z5) (j + 1)) from hJ)
                              clear hJ S20
                              go_wp2_with fail
                              go_roundw
                              case rel => exact ⟨j + 1, by omega, by go_num, S21.out⟩
                              case measure => simp [intOf]; omega
                            · obtain rfl : j = 3 := by omega
                              have hiv6 := Hiv4.out.crash q0 q1 q2
                              have hty6 := Hiv4.out.crash_ty q0 q1 q2
                              unfold CQ at s20
                              generalize crs T0 T1 T2 q0 q1 q2 3 = Ts6 at *
                              have S21 := Lib.hid s20
                              have Hiv6 := Lib.hid hiv6
                              have Hty6 := Lib.hid hty6
                              clear hiv6 hty6
                              clear s20
                              go_wp2_with fail
                              go_roundw
                              case rel => exact ⟨q + 1, Ts6, F4, Z5, by omega, by omega, by go_num, Hiv6.out, Hty6.out, S21.out.eq (by ac_rfl)⟩
                              case measure => simp [intOf]; omega
                    · have h7 : ¬ (q : Int) < (fs.length : Int) ∨ (q : Int) < (fs.length : Int) ∧ ¬ (q : Int) < 6 := by omega
                      clear hqt
                      rcases h7 with h7 | ⟨h7, h8⟩
                      · as_aux_lemma =>
                          obtain ⟨Ts4, hop⟩ := open_last W.heap.size W p0 p1 p2 (some ⟨fb, 0, none⟩) (pts gl (.cells #[pp p0, pp p1, pp p2] 43 (0, 0)) * (pts (W.heap.size + 1) (.cells #[.int .i64 q0, .int .i64 q1, .int .i64 q2] 34 (0, 0)) * Z)) und_zero HokL.out Hor.out hiv3 hty3 hjL
                          have S15 := Lib.hid (s15.eq (Q := fz (.pointer (some ⟨fb, 0, none⟩)) (some F3) * (tps (some ⟨fb, 0, none⟩) [p0, p1, p2] Ts3 * (pts gl (.cells #[pp p0, pp p1, pp p2] 43 (0, 0)) * (pts (W.heap.size + 1) (.cells #[.int .i64 q0, .int .i64 q1, .int .i64 q2] 34 (0, 0)) * Z)))) (by ac_rfl))
                          have Hop := Lib.hid hop
                          clear hop
                          clear s15 hiv3 hty3
                          go_wp2_with fail
                          refine (set_calls _ _ 0 _ (by omega) S15.out).mono ?_
                          rintro e w16 ⟨rfl, s16⟩
                          have s17 := s16.eq (Q := pts gl (.cells #[pp p0, pp p1, pp p2] 43 (0, 0)) * (fz (.pointer (some ⟨fb, 0, none⟩)) (some (Fu.new 0)) * (tps (some ⟨fb, 0, none⟩) [p0, p1, p2] Ts3 * (pts (W.heap.size + 1) (.cells #[.int .i64 q0, .int .i64 q1, .int .i64 q2] 34 (0, 0)) * Z)))) (by ac_rfl)
                          have c0 := s17.cell 0
                          have c1' := s17.cell 1
                          have c2' := s17.cell 2
                          simp at c0 c1' c2'
                          have S16 := Lib.hid s16
                          clear s16 s17 S15
                          go_wp2_with fail
                          clear c0 c1' c2'
                          refine (open_calls (some (Fu.new 0)) Ts3 p0 p1 p2 (some ⟨fb, 0, none⟩) hT3 w16 (R := pts gl (.cells #[pp p0, pp p1, pp p2] 43 (0, 0)) * (pts (W.heap.size + 1) (.cells #[.int .i64 q0, .int .i64 q1, .int .i64 q2] 34 (0, 0)) * Z)) (S16.out.eq (by ac_rfl))).mono ?_
                          intro e w17 h
                          obtain ⟨X, b5, v5, vs5, rfl, hbr, s18⟩ := Hop.out _ _ h
                          have hwt2 : (((L ++ tl false r).length : Int) != (10 : Int)) = false := by rw [Hwt.out]; simp
                          have Hmi := Lib.hid (show (if (10 : Int) < (rs.length : Int) then (10 : Int) else (rs.length : Int)) = (k : Int) by have := Hmin.out; split <;> omega)
                          have hLn : (L ++ tl false r).length = k + if false then 1 else 0 := by rw [lt_len, HlL.out]
                          have hget : ∀ (j : Nat) (hj : j < (L ++ tl false r).length), (j < k ∧ ∃ h : j < rs.length, (L ++ tl false r)[j] = rs[j]) ∨ (j = k ∧ (L ++ tl false r)[j] = r) := by
                            intro j hj
                            rw [hLn] at hj
                            by_cases h : j < k
                            · refine .inl ⟨h, by have := Hmin.out; omega, ?_⟩
                              rw [List.getElem_append_left (by rw [HlL.out]; exact h)]
                              have := HLd.out
                              subst this
                              rw [List.getElem_take]
                            · have hf : false = true := by first | rfl | (exfalso; simp at hj; omega)
                              have hjk : j = k := by rw [hf] at hj; simp at hj; omega
                              refine .inr ⟨hjk, ?_⟩
                              rw [List.getElem_append_right (by rw [HlL.out]; omega)]
                              simp [tl, hf]
                          generalize hLs : L ++ tl false r = Ls at *
                          obtain ⟨R8, hR8⟩ : ∃ ZZ, ZZ = trx b5 (some ⟨fb, 0, none⟩) [p0, p1, p2] Ls.length Ts4 (some (Fu.new 0)) * (pts gl (.cells #[pp p0, pp p1, pp p2] 43 (0, 0)) * (pts (W.heap.size + 1) (.cells #[.int .i64 q0, .int .i64 q1, .int .i64 q2] 34 (0, 0)) * Z)) := ⟨_, rfl⟩
                          rw [← hR8] at s18
                          obtain ⟨A5, c5, rfl, h51, h52, h53, h54⟩ := hbr.val
                          have S18 := Lib.hid s18
                          have Hln := Lib.hid hLn
                          have Hbr := Lib.hid hbr
                          have H53 := Lib.hid h53
                          have H54 := Lib.hid h54
                          have HLs := Lib.hid hLs
                          have Hget := Lib.hid hget
                          clear hbr h53 h54 hLs hget
                          clear s18 h S16 Hop hR8 hLn
                          go_wp2_with fail
                          go_loopw [28] (fun i wr => ∃ j : Nat, j ≤ Ls.length ∧ i = .int .i64 j ∧ St W.heap.size W wr (X * R8)) (fun i _ => Ls.length - (intOf i).toNat)
                          case atStart => exact ⟨0, Nat.zero_le _, rfl, S18.out⟩
                          case round =>
                            obtain ⟨j, hj, rfl, s19⟩ := hrel
                            clear S18
                            by_cases hjt : j < Ls.length
                            · have t3 : (j : Int) < (Ls.length : Int) := by omega
                              have hg := Hget.out j hjt
                              obtain ⟨u, hu, hbu⟩ := Hbr.out.at' wr R8 (s19.eq (sep_comm _ _)) j hjt
                              obtain ⟨aj, cj, rfl, -⟩ := id hbu
                              have hne : vs5 ≠ [] := by intro e; rw [e] at hu; simp at hu
                              obtain ⟨bg, og, rfl, -⟩ := (H54.out wr R8 (s19.eq (sep_comm _ _))).at hne
                              have hcg : ∀ w, St W.heap.size W w (X * R8) → w.cell? ⟨bg, og + j, none⟩ = some (.slice aj Ls[j].length cj) := fun w s => by
                                obtain ⟨_, _, e, hc⟩ := (H54.out w R8 (s.eq (sep_comm _ _))).at hne
                                cases e
                                exact hc j _ hu
                              have hbg : ∀ w, St W.heap.size W w (X * R8) → BS w (.slice aj Ls[j].length cj) Ls[j] := fun w s => by
                                obtain ⟨u', hu', hb'⟩ := Hbr.out.at' w R8 (s.eq (sep_comm _ _)) j hjt
                                rw [hu] at hu'
                                cases hu'
                                exact hb'
                              generalize Ls[j] = lj at *
                              have S19 := Lib.hid s19
                              have Hcg := Lib.hid hcg
                              have Hbg := Lib.hid hbg
                              clear hcg hbg
                              clear s19 hbu hu
                              rcases hg with ⟨hjk, hjr, hlj⟩ | ⟨hjk, hlj⟩
                              · obtain ⟨-, -, -, -, us, hru, hlv, hbu⟩ := Hrs.out.open'
                                obtain ⟨u, hu, hbu⟩ := hbu j hjr
                                rw [← hlj] at hbu
                                obtain ⟨ar, cr, rfl, -⟩ := id hbu
                                obtain ⟨b1, o1, rfl, hc⟩ := hru.at (by rintro rfl; rw [List.length_nil] at hlv; omega)
                                have hcr : ∀ w, St W.heap.size W w (X * R8) → w.cell? ⟨b1, o1 + j, none⟩ = some (.slice ar lj.length cr) := fun w s => Add.cell s.below (hc j _ hu)
                                have hbr2 : ∀ w, St W.heap.size W w (X * R8) → BS w (.slice ar lj.length cr) lj := fun w s => hbu.below s.below
                                have t4 : (j : Int) < (rs.length : Int) := by omega
                                have t5 : (j : Int) < 10 := by omega
                                have t6 : ¬ (k : Int) ≤ (j : Int) := by omega
                                have Hcr := Lib.hid hcr
                                have Hbr2 := Lib.hid hbr2
                                clear hcr hbr2
                                clear hru hlv hbu hu hc hlj
                                go_wp2_with fail
                                refine wp_region_rx (fun _ w' => St W.heap.size W w' (X * R8)) [] mixed (by kernel_rfl) (by kernel_rfl) S19.out.drew ?_
                                refine RXl.exact (.int .i64 j) rfl rfl rfl rfl rfl (fun _ _ _ _ _ => rfl) ?_
                                refine RXl.exact (.slice (some ⟨b1, o1, none⟩) rs.length ca) rfl rfl rfl rfl rfl (fun _ _ _ _ _ => rfl) ?_
                                refine RXl.exact (.int .i64 rs.length) rfl rfl rfl rfl rfl (fun j τ w' hj hJ => by simp [rho, upd, Spec.val, execOp, go_sem, resolve, invoke, builtin]) ?_
                                refine RXl.exact (.bool true) rfl rfl rfl rfl rfl (fun j τ w' hj hJ => by simp [rho, upd, Spec.val, execOp, go_sem, t4]) ?_
                                refine RXl.exact (.bool true) rfl rfl rfl rfl rfl (fun _ _ _ _ _ => rfl) ?_
                                refine RXl.exact (.int .i64 j) rfl rfl rfl rfl rfl (fun _ _ _ _ _ => rfl) ?_
                                refine RXl.exact (.bool true) rfl rfl rfl rfl rfl (fun j τ w' hj hJ => by simp [rho, upd, Spec.val, execOp, go_sem, t5]) ?_
                                refine RXl.exact (.bool true) rfl rfl rfl rfl rfl (fun _ _ _ _ _ => rfl) ?_
                                refine RXl.exact (.bool true) rfl rfl rfl rfl rfl (fun _ _ _ _ _ => rfl) ?_
                                refine RXl.exact (.slice (some ⟨bg, og, none⟩) Ls.length c5) rfl rfl rfl rfl rfl (fun _ _ _ _ _ => rfl) ?_
                                refine RXl.exact (.int .i64 j) rfl rfl rfl rfl rfl (fun _ _ _ _ _ => rfl) ?_
                                refine RXl.exact (.pointer (some ⟨bg, og + j, none⟩)) rfl rfl rfl rfl rfl (fun j τ w' hj hJ => by simp [rho, upd, Spec.val, execOp, go_sem, t3]) ?_
                                refine RXl.exact (.slice aj lj.length cj) rfl rfl rfl rfl rfl (fun j τ w' hj hJ => by have c := Hcg.out _ hJ; simp [rho, upd, Spec.val, execOp, go_sem, c]) ?_
                                refine RXl.exact (str lj) rfl rfl rfl rfl rfl (fun j τ w' hj hJ => exec_convert rfl (run_str Try.underlying23 Try.underlying5 Try.underlying9 (Hbg.out _ hJ))) ?_
                                refine RXl.exact (.slice (some ⟨b1, o1, none⟩) rs.length ca) rfl rfl rfl rfl rfl (fun _ _ _ _ _ => rfl) ?_
                                refine RXl.exact (.int .i64 j) rfl rfl rfl rfl rfl (fun _ _ _ _ _ => rfl) ?_
                                refine RXl.exact (.pointer (some ⟨b1, o1 + j, none⟩)) rfl rfl rfl rfl rfl (fun j τ w' hj hJ => by simp [rho, upd, Spec.val, execOp, go_sem, t4]) ?_
                                refine RXl.exact (.slice ar lj.length cr) rfl rfl rfl rfl rfl (fun j τ w' hj hJ => by have c := Hcr.out _ hJ; simp [rho, upd, Spec.val, execOp, go_sem, c]) ?_
                                refine RXl.exact (str lj) rfl rfl rfl rfl rfl (fun j τ w' hj hJ => exec_convert rfl (run_str Try.underlying23 Try.underlying5 Try.underlying9 (Hbr2.out _ hJ))) ?_
                                refine RXl.exact (.bool false) rfl rfl rfl rfl rfl (fun j τ w' hj hJ => by simp [rho, upd, Spec.val, execOp, go_sem]) ?_
                                refine RXl.exact (.bool false) rfl rfl rfl rfl rfl (fun _ _ _ _ _ => rfl) ?_
                                refine RXl.exact (.bool false) rfl rfl rfl rfl rfl (fun _ _ _ _ _ => rfl) ?_
                                refine RXl.exact (.int .i64 j) rfl rfl rfl rfl rfl (fun _ _ _ _ _ => rfl) ?_
                                refine RXl.exact (.slice (some ⟨b1, o1, none⟩) rs.length ca) rfl rfl rfl rfl rfl (fun _ _ _ _ _ => rfl) ?_
                                refine RXl.exact (.int .i64 rs.length) rfl rfl rfl rfl rfl (fun j τ w' hj hJ => by simp [rho, upd, Spec.val, execOp, go_sem, resolve, invoke, builtin]) ?_
                                refine RXl.exact (.int .i64 k) rfl rfl rfl rfl rfl (fun j τ w' hj hJ => by simp [rho, upd, Spec.val, execOp, go_sem, resolve, invoke, builtin, Hmi.out]) ?_
                                refine RXl.exact (.bool false) rfl rfl rfl rfl rfl (fun j τ w' hj hJ => by simp [rho, upd, Spec.val, execOp, go_sem]; exact hjk) ?_
                                refine RXl.exact (.bool false) rfl rfl rfl rfl rfl (fun _ _ _ _ _ => rfl) ?_
                                refine RXl.skip rfl rfl rfl rfl ?_
                                refine RXl.skip rfl rfl rfl rfl ?_
                                refine RXl.skip rfl rfl rfl rfl ?_
                                refine RXl.skip rfl rfl rfl rfl ?_
                                refine RXl.skip rfl rfl rfl rfl ?_
                                refine RXl.skip rfl rfl rfl rfl ?_
                                refine RXl.skip rfl rfl rfl rfl ?_
                                refine RXl.skip rfl rfl rfl rfl ?_
                                refine RXl.exact (.bool false) rfl rfl rfl rfl rfl (fun _ _ _ _ _ => rfl) ?_
                                refine RXl.exact (.bool false) rfl rfl rfl rfl rfl (fun _ _ _ _ _ => rfl) ?_
                                refine RXl.nilx _ (Agr.upd _ _ (Agr.upd _ _ (Agr.upd _ _ (Agr.upd _ _ (Agr.upd _ _ (Agr.upd _ _ (Agr.upd _ _ (Agr.upd _ _ (Agr.upd _ _ (Agr.upd _ _ (Agr.upd _ _ (Agr.upd _ _ (Agr.upd _ _ (Agr.upd _ _ (Agr.upd _ _ (Agr.upd _ _ (Agr.upd _ _ (Agr.upd _ _ (Agr.upd _ _ (Agr.upd _ _ (Agr.upd _ _ (Agr.upd _ _ (Agr.upd _ _ (Agr.upd _ _ (Agr.upd _ _ (Agr.upd _ _ (Agr.upd _ _ (Agr.upd _ _ (Agr.upd _ _ (Agr.upd _ _ (Agr.upd _ _ (Agr.upd _ _ (Agr.upd _ _ (Agr.upd _ _ (Agr.upd _ _ (Agr.upd _ _ (Agr.upd _ _ (Agr.upd _ _ (Agr.base _))))))))))))))))))))))))))))))))))))))) fun w22 hJ => ?_
                                obtain ⟨_, hJ⟩ := hJ
                                simp only [Act.put, List.setIfInBounds_toArray, List.set_cons_succ, List.set_cons_zero]
                                have S20 := Lib.hid (show St W.heap.size W w22 (X * R8) from hJ)
                                clear hJ S19
                                go_wp2_with fail
                                go_roundw
                                case rel => exact ⟨j + 1, by omega, by go_num, S20.out⟩
                                case measure => simp [intOf]; omega
                              · have t7 : (k : Int) ≤ (j : Int) := by omega
                                have hbr2 : ∀ w, St W.heap.size W w (X * R8) → BS w (.slice a1 r.length c1) r := fun w s => Hr.out.st rfl s
                                have Hbr2 := Lib.hid hbr2
                                have Hlj := Lib.hid hlj
                                clear hbr2 hlj
                                go_wp2_with fail
                                refine wp_region_rx (fun _ w' => St W.heap.size W w' (X * R8)) [] mixed (by kernel_rfl) (by kernel_rfl) S19.out.drew ?_
                                refine RXl.exact (.int .i64 j) rfl rfl rfl rfl rfl (fun _ _ _ _ _ => rfl) ?_
                                refine RXl.exact (.slice a rs.length ca) rfl rfl rfl rfl rfl (fun _ _ _ _ _ => rfl) ?_
                                refine RXl.exact (.int .i64 rs.length) rfl rfl rfl rfl rfl (fun j τ w' hj hJ => by simp [rho, upd, Spec.val, execOp, go_sem, resolve, invoke, builtin]) ?_
                                refine RXl.exact (.bool true) rfl rfl rfl rfl rfl (fun j τ w' hj hJ => by simp [rho, upd, Spec.val, execOp, go_sem] <;> omega) ?_
                                refine RXl.exact (.bool true) rfl rfl rfl rfl rfl (fun _ _ _ _ _ => rfl) ?_
                                refine RXl.exact (.int .i64 j) rfl rfl rfl rfl rfl (fun _ _ _ _ _ => rfl) ?_
                                refine RXl.exact (.bool false) rfl rfl rfl rfl rfl (fun j τ w' hj hJ => by simp [rho, upd, Spec.val, execOp, go_sem] <;> omega) ?_
                                refine RXl.exact (.bool false) rfl rfl rfl rfl rfl (fun _ _ _ _ _ => rfl) ?_
                                refine RXl.exact (.bool false) rfl rfl rfl rfl rfl (fun _ _ _ _ _ => rfl) ?_
                                refine RXl.skip rfl rfl rfl rfl ?_
                                refine RXl.skip rfl rfl rfl rfl ?_
                                refine RXl.skip rfl rfl rfl rfl ?_
                                refine RXl.skip rfl rfl rfl rfl ?_
                                refine RXl.skip rfl rfl rfl rfl ?_
                                refine RXl.skip rfl rfl rfl rfl ?_
                                refine RXl.skip rfl rfl rfl rfl ?_
                                refine RXl.skip rfl rfl rfl rfl ?_
                                refine RXl.skip rfl rfl rfl rfl ?_
                                refine RXl.skip rfl rfl rfl rfl ?_
                                refine RXl.skip rfl rfl rfl rfl ?_
                                refine RXl.exact (.bool false) rfl rfl rfl rfl rfl (fun _ _ _ _ _ => rfl) ?_
                                refine RXl.exact (.bool false) rfl rfl rfl rfl rfl (fun _ _ _ _ _ => rfl) ?_
                                refine RXl.exact (.int .i64 j) rfl rfl rfl rfl rfl (fun _ _ _ _ _ => rfl) ?_
                                refine RXl.exact (.slice a rs.length ca) rfl rfl rfl rfl rfl (fun _ _ _ _ _ => rfl) ?_
                                refine RXl.exact (.int .i64 rs.length) rfl rfl rfl rfl rfl (fun j τ w' hj hJ => by simp [rho, upd, Spec.val, execOp, go_sem, resolve, invoke, builtin]) ?_
                                refine RXl.exact (.int .i64 k) rfl rfl rfl rfl rfl (fun j τ w' hj hJ => by simp [rho, upd, Spec.val, execOp, go_sem, resolve, invoke, builtin, Hmi.out]) ?_
                                refine RXl.exact (.bool true) rfl rfl rfl rfl rfl (fun j τ w' hj hJ => by simp [rho, upd, Spec.val, execOp, go_sem] <;> omega) ?_
                                refine RXl.exact (.bool true) rfl rfl rfl rfl rfl (fun _ _ _ _ _ => rfl) ?_
                                refine RXl.exact (.slice (some ⟨bg, og, none⟩) Ls.length c5) rfl rfl rfl rfl rfl (fun _ _ _ _ _ => rfl) ?_
                                refine RXl.exact (.int .i64 j) rfl rfl rfl rfl rfl (fun _ _ _ _ _ => rfl) ?_
                                refine RXl.exact (.pointer (some ⟨bg, og + j, none⟩)) rfl rfl rfl rfl rfl (fun j τ w' hj hJ => by simp [rho, upd, Spec.val, execOp, go_sem, t3]) ?_
                                refine RXl.exact (.slice aj lj.length cj) rfl rfl rfl rfl rfl (fun j τ w' hj hJ => by have c := Hcg.out _ hJ; simp [rho, upd, Spec.val, execOp, go_sem, c]) ?_
                                refine RXl.exact (str lj) rfl rfl rfl rfl rfl (fun j τ w' hj hJ => exec_convert rfl (run_str Try.underlying23 Try.underlying5 Try.underlying9 (Hbg.out _ hJ))) ?_
                                refine RXl.exact (.slice a1 r.length c1) rfl rfl rfl rfl rfl (fun _ _ _ _ _ => rfl) ?_
                                refine RXl.exact (str lj) rfl rfl rfl rfl rfl (fun j τ w' hj hJ => by rw [Hlj.out]; exact exec_convert rfl (run_str Try.underlying23 Try.underlying5 Try.underlying9 (Hbr2.out _ hJ))) ?_
                                refine RXl.exact (.bool false) rfl rfl rfl rfl rfl (fun j τ w' hj hJ => by simp [rho, upd, Spec.val, execOp, go_sem]) ?_
                                refine RXl.exact (.bool false) rfl rfl rfl rfl rfl (fun _ _ _ _ _ => rfl) ?_
                                refine RXl.exact (.bool false) rfl rfl rfl rfl rfl (fun _ _ _ _ _ => rfl) ?_
                                refine RXl.nilx _ (Agr.upd _ _ (Agr.upd _ _ (Agr.upd _ _ (Agr.upd _ _ (Agr.upd _ _ (Agr.upd _ _ (Agr.upd _ _ (Agr.upd _ _ (Agr.upd _ _ (Agr.upd _ _ (Agr.upd _ _ (Agr.upd _ _ (Agr.upd _ _ (Agr.upd _ _ (Agr.upd _ _ (Agr.upd _ _ (Agr.upd _ _ (Agr.upd _ _ (Agr.upd _ _ (Agr.upd _ _ (Agr.upd _ _ (Agr.upd _ _ (Agr.upd _ _ (Agr.upd _ _ (Agr.upd _ _ (Agr.upd _ _ (Agr.upd _ _ (Agr.upd _ _ (Agr.upd _ _ (Agr.upd _ _ (Agr.upd _ _ (Agr.upd _ _ (Agr.upd _ _ (Agr.upd _ _ (Agr.upd _ _ (Agr.upd _ _ (Agr.upd _ _ (Agr.upd _ _ (Agr.base _))))))))))))))))))))))))))))))))))))))) fun w22 hJ => ?_
                                obtain ⟨_, hJ⟩ := hJ
                                simp only [Act.put, List.setIfInBounds_toArray, List.set_cons_succ, List.set_cons_zero]
                                have S20 := Lib.hid (show St W.heap.size W w22 (X * R8) from hJ)
                                clear hJ S19
                                go_wp2_with fail
                                go_roundw
                                case rel => exact ⟨j + 1, by omega, by go_num, S20.out⟩
                                case measure => simp [intOf]; omega
                            · obtain rfl : j = Ls.length := by omega
                              have S19 := Lib.hid s19
                              clear s19
                              go_wp2_with fail
                              refine (awake_calls _).mono ?_
                              rintro e w20 ⟨rfl, h2⟩
                              have HA := Lib.hid (S19.out.keep h2)
                              clear h2 S19
                              go_wp2_with fail
                              go_ret
                              exact ⟨rfl, HA.out.below⟩
                      · as_aux_lemma =>
                          obtain ⟨Ts4, hop⟩ := open_last W.heap.size W p0 p1 p2 (some ⟨fb, 0, none⟩) (pts gl (.cells #[pp p0, pp p1, pp p2] 43 (0, 0)) * (pts (W.heap.size + 1) (.cells #[.int .i64 q0, .int .i64 q1, .int .i64 q2] 34 (0, 0)) * Z)) und_zero HokL.out Hor.out hiv3 hty3 hjL
                          have S15 := Lib.hid (s15.eq (Q := fz (.pointer (some ⟨fb, 0, none⟩)) (some F3) * (tps (some ⟨fb, 0, none⟩) [p0, p1, p2] Ts3 * (pts gl (.cells #[pp p0, pp p1, pp p2] 43 (0, 0)) * (pts (W.heap.size + 1) (.cells #[.int .i64 q0, .int .i64 q1, .int .i64 q2] 34 (0, 0)) * Z)))) (by ac_rfl))
                          have Hop := Lib.hid hop
                          clear hop
                          clear s15 hiv3 hty3
                          go_wp2_with fail
                          refine (set_calls _ _ 0 _ (by omega) S15.out).mono ?_
                          rintro e w16 ⟨rfl, s16⟩
                          have s17 := s16.eq (Q := pts gl (.cells #[pp p0, pp p1, pp p2] 43 (0, 0)) * (fz (.pointer (some ⟨fb, 0, none⟩)) (some (Fu.new 0)) * (tps (some ⟨fb, 0, none⟩) [p0, p1, p2] Ts3 * (pts (W.heap.size + 1) (.cells #[.int .i64 q0, .int .i64 q1, .int .i64 q2] 34 (0, 0)) * Z)))) (by ac_rfl)
                          have c0 := s17.cell 0
                          have c1' := s17.cell 1
                          have c2' := s17.cell 2
                          simp at c0 c1' c2'
                          have S16 := Lib.hid s16
                          clear s16 s17 S15
                          go_wp2_with fail
                          clear c0 c1' c2'
                          refine (open_calls (some (Fu.new 0)) Ts3 p0 p1 p2 (some ⟨fb, 0, none⟩) hT3 w16 (R := pts gl (.cells #[pp p0, pp p1, pp p2] 43 (0, 0)) * (pts (W.heap.size + 1) (.cells #[.int .i64 q0, .int .i64 q1, .int .i64 q2] 34 (0, 0)) * Z)) (S16.out.eq (by ac_rfl))).mono ?_
                          intro e w17 h
                          obtain ⟨X, b5, v5, vs5, rfl, hbr, s18⟩ := Hop.out _ _ h
                          have hwt2 : (((L ++ tl false r).length : Int) != (10 : Int)) = false := by rw [Hwt.out]; simp
                          have Hmi := Lib.hid (show (if (10 : Int) < (rs.length : Int) then (10 : Int) else (rs.length : Int)) = (k : Int) by have := Hmin.out; split <;> omega)
                          have hLn : (L ++ tl false r).length = k + if false then 1 else 0 := by rw [lt_len, HlL.out]
                          have hget : ∀ (j : Nat) (hj : j < (L ++ tl false r).length), (j < k ∧ ∃ h : j < rs.length, (L ++ tl false r)[j] = rs[j]) ∨ (j = k ∧ (L ++ tl false r)[j] = r) := by
                            intro j hj
                            rw [hLn] at hj
                            by_cases h : j < k
                            · refine .inl ⟨h, by have := Hmin.out; omega, ?_⟩
                              rw [List.getElem_append_left (by rw [HlL.out]; exact h)]
                              have := HLd.out
                              subst this
                              rw [List.getElem_take]
                            · have hf : false = true := by first | rfl | (exfalso; simp at hj; omega)
                              have hjk : j = k := by rw [hf] at hj; simp at hj; omega
                              refine .inr ⟨hjk, ?_⟩
                              rw [List.getElem_append_right (by rw [HlL.out]; omega)]
                              simp [tl, hf]
                          generalize hLs : L ++ tl false r = Ls at *
                          obtain ⟨R8, hR8⟩ : ∃ ZZ, ZZ = trx b5 (some ⟨fb, 0, none⟩) [p0, p1, p2] Ls.length Ts4 (some (Fu.new 0)) * (pts gl (.cells #[pp p0, pp p1, pp p2] 43 (0, 0)) * (pts (W.heap.size + 1) (.cells #[.int .i64 q0, .int .i64 q1, .int .i64 q2] 34 (0, 0)) * Z)) := ⟨_, rfl⟩
                          rw [← hR8] at s18
                          obtain ⟨A5, c5, rfl, h51, h52, h53, h54⟩ := hbr.val
                          have S18 := Lib.hid s18
                          have Hln := Lib.hid hLn
                          have Hbr := Lib.hid hbr
                          have H53 := Lib.hid h53
                          have H54 := Lib.hid h54
                          have HLs := Lib.hid hLs
                          have Hget := Lib.hid hget
                          clear hbr h53 h54 hLs hget
                          clear s18 h S16 Hop hR8 hLn
                          go_wp2_with fail
                          go_loopw [28] (fun i wr => ∃ j : Nat, j ≤ Ls.length ∧ i = .int .i64 j ∧ St W.heap.size W wr (X * R8)) (fun i _ => Ls.length - (intOf i).toNat)
                          case atStart => exact ⟨0, Nat.zero_le _, rfl, S18.out⟩
                          case round =>
                            obtain ⟨j, hj, rfl, s19⟩ := hrel
                            clear S18
                            by_cases hjt : j < Ls.length
                            · have t3 : (j : Int) < (Ls.length : Int) := by omega
                              have hg := Hget.out j hjt
                              obtain ⟨u, hu, hbu⟩ := Hbr.out.at' wr R8 (s19.eq (sep_comm _ _)) j hjt
                              obtain ⟨aj, cj, rfl, -⟩ := id hbu
                              have hne : vs5 ≠ [] := by intro e; rw [e] at hu; simp at hu
                              obtain ⟨bg, og, rfl, -⟩ := (H54.out wr R8 (s19.eq (sep_comm _ _))).at hne
                              have hcg : ∀ w, St W.heap.size W w (X * R8) → w.cell? ⟨bg, og + j, none⟩ = some (.slice aj Ls[j].length cj) := fun w s => by
                                obtain ⟨_, _, e, hc⟩ := (H54.out w R8 (s.eq (sep_comm _ _))).at hne
                                cases e
                                exact hc j _ hu
                              have hbg : ∀ w, St W.heap.size W w (X * R8) → BS w (.slice aj Ls[j].length cj) Ls[j] := fun w s => by
                                obtain ⟨u', hu', hb'⟩ := Hbr.out.at' w R8 (s.eq (sep_comm _ _)) j hjt
                                rw [hu] at hu'
                                cases hu'
                                exact hb'
                              generalize Ls[j] = lj at *
                              have S19 := Lib.hid s19
                              have Hcg := Lib.hid hcg
                              have Hbg := Lib.hid hbg
                              clear hcg hbg
                              clear s19 hbu hu
                              rcases hg with ⟨hjk, hjr, hlj⟩ | ⟨hjk, hlj⟩
                              · obtain ⟨-, -, -, -, us, hru, hlv, hbu⟩ := Hrs.out.open'
                                obtain ⟨u, hu, hbu⟩ := hbu j hjr
                                rw [← hlj] at hbu
                                obtain ⟨ar, cr, rfl, -⟩ := id hbu
                                obtain ⟨b1, o1, rfl, hc⟩ := hru.at (by rintro rfl; rw [List.length_nil] at hlv; omega)
                                have hcr : ∀ w, St W.heap.size W w (X * R8) → w.cell? ⟨b1, o1 + j, none⟩ = some (.slice ar lj.length cr) := fun w s => Add.cell s.below (hc j _ hu)
                                have hbr2 : ∀ w, St W.heap.size W w (X * R8) → BS w (.slice ar lj.length cr) lj := fun w s => hbu.below s.below
                                have t4 : (j : Int) < (rs.length : Int) := by omega
                                have t5 : (j : Int) < 10 := by omega
                                have t6 : ¬ (k : Int) ≤ (j : Int) := by omega
                                have Hcr := Lib.hid hcr
                                have Hbr2 := Lib.hid hbr2
                                clear hcr hbr2
                                clear hru hlv hbu hu hc hlj
                                go_wp2_with fail
                                refine wp_region_rx (fun _ w' => St W.heap.size W w' (X * R8)) [] mixed (by kernel_rfl) (by kernel_rfl) S19.out.drew ?_
                                refine RXl.exact (.int .i64 j) rfl rfl rfl rfl rfl (fun _ _ _ _ _ => rfl) ?_
                                refine RXl.exact (.slice (some ⟨b1, o1, none⟩) rs.length ca) rfl rfl rfl rfl rfl (fun _ _ _ _ _ => rfl) ?_
                                refine RXl.exact (.int .i64 rs.length) rfl rfl rfl rfl rfl (fun j τ w' hj hJ => by simp [rho, upd, Spec.val, execOp, go_sem, resolve, invoke, builtin]) ?_
                                refine RXl.exact (.bool true) rfl rfl rfl rfl rfl (fun j τ w' hj hJ => by simp [rho, upd, Spec.val, execOp, go_sem, t4]) ?_
                                refine RXl.exact (.bool true) rfl rfl rfl rfl rfl (fun _ _ _ _ _ => rfl) ?_
                                refine RXl.exact (.int .i64 j) rfl rfl rfl rfl rfl (fun _ _ _ _ _ => rfl) ?_
                                refine RXl.exact (.bool true) rfl rfl rfl rfl rfl (fun j τ w' hj hJ => by simp [rho, upd, Spec.val, execOp, go_sem, t5]) ?_
                                refine RXl.exact (.bool true) rfl rfl rfl rfl rfl (fun _ _ _ _ _ => rfl) ?_
                                refine RXl.exact (.bool true) rfl rfl rfl rfl rfl (fun _ _ _ _ _ => rfl) ?_
                                refine RXl.exact (.slice (some ⟨bg, og, none⟩) Ls.length c5) rfl rfl rfl rfl rfl (fun _ _ _ _ _ => rfl) ?_
                                refine RXl.exact (.int .i64 j) rfl rfl rfl rfl rfl (fun _ _ _ _ _ => rfl) ?_
                                refine RXl.exact (.pointer (some ⟨bg, og + j, none⟩)) rfl rfl rfl rfl rfl (fun j τ w' hj hJ => by simp [rho, upd, Spec.val, execOp, go_sem, t3]) ?_
                                refine RXl.exact (.slice aj lj.length cj) rfl rfl rfl rfl rfl (fun j τ w' hj hJ => by have c := Hcg.out _ hJ; simp [rho, upd, Spec.val, execOp, go_sem, c]) ?_
                                refine RXl.exact (str lj) rfl rfl rfl rfl rfl (fun j τ w' hj hJ => exec_convert rfl (run_str Try.underlying23 Try.underlying5 Try.underlying9 (Hbg.out _ hJ))) ?_
                                refine RXl.exact (.slice (some ⟨b1, o1, none⟩) rs.length ca) rfl rfl rfl rfl rfl (fun _ _ _ _ _ => rfl) ?_
                                refine RXl.exact (.int .i64 j) rfl rfl rfl rfl rfl (fun _ _ _ _ _ => rfl) ?_
                                refine RXl.exact (.pointer (some ⟨b1, o1 + j, none⟩)) rfl rfl rfl rfl rfl (fun j τ w' hj hJ => by simp [rho, upd, Spec.val, execOp, go_sem, t4]) ?_
                                refine RXl.exact (.slice ar lj.length cr) rfl rfl rfl rfl rfl (fun j τ w' hj hJ => by have c := Hcr.out _ hJ; simp [rho, upd, Spec.val, execOp, go_sem, c]) ?_
                                refine RXl.exact (str lj) rfl rfl rfl rfl rfl (fun j τ w' hj hJ => exec_convert rfl (run_str Try.underlying23 Try.underlying5 Try.underlying9 (Hbr2.out _ hJ))) ?_
                                refine RXl.exact (.bool false) rfl rfl rfl rfl rfl (fun j τ w' hj hJ => by simp [rho, upd, Spec.val, execOp, go_sem]) ?_
                                refine RXl.exact (.bool false) rfl rfl rfl rfl rfl (fun _ _ _ _ _ => rfl) ?_
                                refine RXl.exact (.bool false) rfl rfl rfl rfl rfl (fun _ _ _ _ _ => rfl) ?_
                                refine RXl.exact (.int .i64 j) rfl rfl rfl rfl rfl (fun _ _ _ _ _ => rfl) ?_
                                refine RXl.exact (.slice (some ⟨b1, o1, none⟩) rs.length ca) rfl rfl rfl rfl rfl (fun _ _ _ _ _ => rfl) ?_
                                refine RXl.exact (.int .i64 rs.length) rfl rfl rfl rfl rfl (fun j τ w' hj hJ => by simp [rho, upd, Spec.val, execOp, go_sem, resolve, invoke, builtin]) ?_
                                refine RXl.exact (.int .i64 k) rfl rfl rfl rfl rfl (fun j τ w' hj hJ => by simp [rho, upd, Spec.val, execOp, go_sem, resolve, invoke, builtin, Hmi.out]) ?_
                                refine RXl.exact (.bool false) rfl rfl rfl rfl rfl (fun j τ w' hj hJ => by simp [rho, upd, Spec.val, execOp, go_sem]; exact hjk) ?_
                                refine RXl.exact (.bool false) rfl rfl rfl rfl rfl (fun _ _ _ _ _ => rfl) ?_
                                refine RXl.skip rfl rfl rfl rfl ?_
                                refine RXl.skip rfl rfl rfl rfl ?_
                                refine RXl.skip rfl rfl rfl rfl ?_
                                refine RXl.skip rfl rfl rfl rfl ?_
                                refine RXl.skip rfl rfl rfl rfl ?_
                                refine RXl.skip rfl rfl rfl rfl ?_
                                refine RXl.skip rfl rfl rfl rfl ?_
                                refine RXl.skip rfl rfl rfl rfl ?_
                                refine RXl.exact (.bool false) rfl rfl rfl rfl rfl (fun _ _ _ _ _ => rfl) ?_
                                refine RXl.exact (.bool false) rfl rfl rfl rfl rfl (fun _ _ _ _ _ => rfl) ?_
                                refine RXl.nilx _ (Agr.upd _ _ (Agr.upd _ _ (Agr.upd _ _ (Agr.upd _ _ (Agr.upd _ _ (Agr.upd _ _ (Agr.upd _ _ (Agr.upd _ _ (Agr.upd _ _ (Agr.upd _ _ (Agr.upd _ _ (Agr.upd _ _ (Agr.upd _ _ (Agr.upd _ _ (Agr.upd _ _ (Agr.upd _ _ (Agr.upd _ _ (Agr.upd _ _ (Agr.upd _ _ (Agr.upd _ _ (Agr.upd _ _ (Agr.upd _ _ (Agr.upd _ _ (Agr.upd _ _ (Agr.upd _ _ (Agr.upd _ _ (Agr.upd _ _ (Agr.upd _ _ (Agr.upd _ _ (Agr.upd _ _ (Agr.upd _ _ (Agr.upd _ _ (Agr.upd _ _ (Agr.upd _ _ (Agr.upd _ _ (Agr.upd _ _ (Agr.upd _ _ (Agr.upd _ _ (Agr.base _))))))))))))))))))))))))))))))))))))))) fun w22 hJ => ?_
                                obtain ⟨_, hJ⟩ := hJ
                                simp only [Act.put, List.setIfInBounds_toArray, List.set_cons_succ, List.set_cons_zero]
                                have S20 := Lib.hid (show St W.heap.size W w22 (X * R8) from hJ)
                                clear hJ S19
                                go_wp2_with fail
                                go_roundw
                                case rel => exact ⟨j + 1, by omega, by go_num, S20.out⟩
                                case measure => simp [intOf]; omega
                              · have t7 : (k : Int) ≤ (j : Int) := by omega
                                have hbr2 : ∀ w, St W.heap.size W w (X * R8) → BS w (.slice a1 r.length c1) r := fun w s => Hr.out.st rfl s
                                have Hbr2 := Lib.hid hbr2
                                have Hlj := Lib.hid hlj
                                clear hbr2 hlj
                                go_wp2_with fail
                                refine wp_region_rx (fun _ w' => St W.heap.size W w' (X * R8)) [] mixed (by kernel_rfl) (by kernel_rfl) S19.out.drew ?_
                                refine RXl.exact (.int .i64 j) rfl rfl rfl rfl rfl (fun _ _ _ _ _ => rfl) ?_
                                refine RXl.exact (.slice a rs.length ca) rfl rfl rfl rfl rfl (fun _ _ _ _ _ => rfl) ?_
                                refine RXl.exact (.int .i64 rs.length) rfl rfl rfl rfl rfl (fun j τ w' hj hJ => by simp [rho, upd, Spec.val, execOp, go_sem, resolve, invoke, builtin]) ?_
                                refine RXl.exact (.bool true) rfl rfl rfl rfl rfl (fun j τ w' hj hJ => by simp [rho, upd, Spec.val, execOp, go_sem] <;> omega) ?_
                                refine RXl.exact (.bool true) rfl rfl rfl rfl rfl (fun _ _ _ _ _ => rfl) ?_
                                refine RXl.exact (.int .i64 j) rfl rfl rfl rfl rfl (fun _ _ _ _ _ => rfl) ?_
                                refine RXl.exact (.bool false) rfl rfl rfl rfl rfl (fun j τ w' hj hJ => by simp [rho, upd, Spec.val, execOp, go_sem] <;> omega) ?_
                                refine RXl.exact (.bool false) rfl rfl rfl rfl rfl (fun _ _ _ _ _ => rfl) ?_
                                refine RXl.exact (.bool false) rfl rfl rfl rfl rfl (fun _ _ _ _ _ => rfl) ?_
                                refine RXl.skip rfl rfl rfl rfl ?_
                                refine RXl.skip rfl rfl rfl rfl ?_
                                refine RXl.skip rfl rfl rfl rfl ?_
                                refine RXl.skip rfl rfl rfl rfl ?_
                                refine RXl.skip rfl rfl rfl rfl ?_
                                refine RXl.skip rfl rfl rfl rfl ?_
                                refine RXl.skip rfl rfl rfl rfl ?_
                                refine RXl.skip rfl rfl rfl rfl ?_
                                refine RXl.skip rfl rfl rfl rfl ?_
                                refine RXl.skip rfl rfl rfl rfl ?_
                                refine RXl.skip rfl rfl rfl rfl ?_
                                refine RXl.exact (.bool false) rfl rfl rfl rfl rfl (fun _ _ _ _ _ => rfl) ?_
                                refine RXl.exact (.bool false) rfl rfl rfl rfl rfl (fun _ _ _ _ _ => rfl) ?_
                                refine RXl.exact (.int .i64 j) rfl rfl rfl rfl rfl (fun _ _ _ _ _ => rfl) ?_
                                refine RXl.exact (.slice a rs.length ca) rfl rfl rfl rfl rfl (fun _ _ _ _ _ => rfl) ?_
                                refine RXl.exact (.int .i64 rs.length) rfl rfl rfl rfl rfl (fun j τ w' hj hJ => by simp [rho, upd, Spec.val, execOp, go_sem, resolve, invoke, builtin]) ?_
                                refine RXl.exact (.int .i64 k) rfl rfl rfl rfl rfl (fun j τ w' hj hJ => by simp [rho, upd, Spec.val, execOp, go_sem, resolve, invoke, builtin, Hmi.out]) ?_
                                refine RXl.exact (.bool true) rfl rfl rfl rfl rfl (fun j τ w' hj hJ => by simp [rho, upd, Spec.val, execOp, go_sem] <;> omega) ?_
                                refine RXl.exact (.bool true) rfl rfl rfl rfl rfl (fun _ _ _ _ _ => rfl) ?_
                                refine RXl.exact (.slice (some ⟨bg, og, none⟩) Ls.length c5) rfl rfl rfl rfl rfl (fun _ _ _ _ _ => rfl) ?_
                                refine RXl.exact (.int .i64 j) rfl rfl rfl rfl rfl (fun _ _ _ _ _ => rfl) ?_
                                refine RXl.exact (.pointer (some ⟨bg, og + j, none⟩)) rfl rfl rfl rfl rfl (fun j τ w' hj hJ => by simp [rho, upd, Spec.val, execOp, go_sem, t3]) ?_
                                refine RXl.exact (.slice aj lj.length cj) rfl rfl rfl rfl rfl (fun j τ w' hj hJ => by have c := Hcg.out _ hJ; simp [rho, upd, Spec.val, execOp, go_sem, c]) ?_
                                refine RXl.exact (str lj) rfl rfl rfl rfl rfl (fun j τ w' hj hJ => exec_convert rfl (run_str Try.underlying23 Try.underlying5 Try.underlying9 (Hbg.out _ hJ))) ?_
                                refine RXl.exact (.slice a1 r.length c1) rfl rfl rfl rfl rfl (fun _ _ _ _ _ => rfl) ?_
                                refine RXl.exact (str lj) rfl rfl rfl rfl rfl (fun j τ w' hj hJ => by rw [Hlj.out]; exact exec_convert rfl (run_str Try.underlying23 Try.underlying5 Try.underlying9 (Hbr2.out _ hJ))) ?_
                                refine RXl.exact (.bool false) rfl rfl rfl rfl rfl (fun j τ w' hj hJ => by simp [rho, upd, Spec.val, execOp, go_sem]) ?_
                                refine RXl.exact (.bool false) rfl rfl rfl rfl rfl (fun _ _ _ _ _ => rfl) ?_
                                refine RXl.exact (.bool false) rfl rfl rfl rfl rfl (fun _ _ _ _ _ => rfl) ?_
                                refine RXl.nilx _ (Agr.upd _ _ (Agr.upd _ _ (Agr.upd _ _ (Agr.upd _ _ (Agr.upd _ _ (Agr.upd _ _ (Agr.upd _ _ (Agr.upd _ _ (Agr.upd _ _ (Agr.upd _ _ (Agr.upd _ _ (Agr.upd _ _ (Agr.upd _ _ (Agr.upd _ _ (Agr.upd _ _ (Agr.upd _ _ (Agr.upd _ _ (Agr.upd _ _ (Agr.upd _ _ (Agr.upd _ _ (Agr.upd _ _ (Agr.upd _ _ (Agr.upd _ _ (Agr.upd _ _ (Agr.upd _ _ (Agr.upd _ _ (Agr.upd _ _ (Agr.upd _ _ (Agr.upd _ _ (Agr.upd _ _ (Agr.upd _ _ (Agr.upd _ _ (Agr.upd _ _ (Agr.upd _ _ (Agr.upd _ _ (Agr.upd _ _ (Agr.upd _ _ (Agr.upd _ _ (Agr.base _))))))))))))))))))))))))))))))))))))))) fun w22 hJ => ?_
                                obtain ⟨_, hJ⟩ := hJ
                                simp only [Act.put, List.setIfInBounds_toArray, List.set_cons_succ, List.set_cons_zero]
                                have S20 := Lib.hid (show St W.heap.size W w22 (X * R8) from hJ)
                                clear hJ S19
                                go_wp2_with fail
                                go_roundw
                                case rel => exact ⟨j + 1, by omega, by go_num, S20.out⟩
                                case measure => simp [intOf]; omega
                            · obtain rfl : j = Ls.length := by omega
                              have S19 := Lib.hid s19
                              clear s19
                              go_wp2_with fail
                              refine (awake_calls _).mono ?_
                              rintro e w20 ⟨rfl, h2⟩
                              have HA := Lib.hid (S19.out.keep h2)
                              clear h2 S19
                              go_wp2_with fail
                              go_ret
                              exact ⟨rfl, HA.out.below⟩
end Go.Proofs.Ytkkkncchinejmaa.TrL
