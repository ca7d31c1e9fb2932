/- TrioKeeps, walked. -/
import Derived.Test.YtkkkncchinejmaaTrK1
namespace Go.Proofs.Ytkkkncchinejmaa.TrL
open Go Go.RowKit Go.Proofs.Ytkkkncchinejmaa Go.Proofs.Ytkkkncchinejmaa.Sp Go.Proofs.Ytkkkncchinejmaa.Reg Go.Proofs.Ytkkkncchinejmaa.SlW Go.Proofs.Ytkkkncchinejmaa.Fus Go.Proofs.Ytkkkncchinejmaa.TrM Go.Proofs.Ytkkkncchinejmaa.TapW Go.Proofs.Ytkkkncchinejmaa.TrW Go.Proofs.Ytkkkncchinejmaa.Str
section
variable {B : Nat} {w0 : World} {R : HP}
theorem tcrash_calls (x : Option Addr) (ps : List Nat) (Ts : List Tp) (i : Nat) (n : Int) (hn : n ≤ 9223372036854775807) (h1 : i < ps.length) (h2 : i < Ts.length) (w : World) (s : St B w0 w (tps x ps Ts * R)) :
    Calls Try.prog 20 #[pp (ps.getD i 0), .int .i64 n] w (RetS B w0 (tps x ps (Ts.set i (tCrash (Ts.getD i Tp.new) n)) * R) (.tuple #[])) :=
  (crash_calls _ n _ _ w hn (tps_out (get_p h1) (get_T h2) s)).mono fun _ _ ⟨e, s⟩ => ⟨e, tps_in (get_p h1) h2 s⟩
end
section
variable {P : Program} {t e : TypeId} {size bytes : Nat} {z : Value} {B : Nat} {w0 w : World} {R : HP} {v : Value} {n : Nat} {xs : List Value} {ops : Array Oper} {rest : List Oper} {o : Oper} {a : Act} {Q : Exit → Act → World → Prop}
theorem wpl_append_g (hg : Region.wanted o (yielded ops a.tmps) = true) (so xo : Operand) (hop : o.op = .call { callee := .builtin .append, args := #[so, xo], argTypes := #[t, t] })
    (T : SlT P t e size bytes z) (s : St B w0 w (row e size v n xs * R)) (ax : Option Addr) (m c : Nat) (news : List Value) (hs : a.eval so = v) (hx : a.eval xo = .slice ax m c)
    (hr : Rd w ax news) (hnone : ax = none → c = 0) (hl : news.length = m * size) (h1 : ∀ u ∈ news, u.oneCell' = true) (h63 : n + m ≤ maxLen) (hbytes : (n + m) * bytes ≤ 140737488355328)
    (hK : ∀ v' w', St B w0 w' (row e size v' (n + m) (xs ++ news) * R) → wpList P ops Q rest (a.put o.dst v') w') :
    wpList P ops Q (o :: rest) a w := by
  refine wpList_step fun K hK' => ?_
  rw [if_pos hg]
  obtain ⟨v', w', hrun, r1, -⟩ := run_append_st (P := P) T o.type s ax m c news hr hnone hl h1 h63 hbytes
  unfold Oper.wp
  simp [execOp, hop, resolve, invoke, builtin, hs, hx, hrun, Result.andThen]
  exact hK' _ _ (hK v' w' r1)
end
/-- What is owned while the tapes crash. -/
def CR (g6 b : Nat) (x : Option Addr) (p0 p1 p2 gl : Nat) (n0 n1 n2 : Int) (T0 T1 T2 : Tp) (F : Fu) (k : Nat) (v : Value) (L : List (List UInt8)) (j : Nat) : HP :=
  tps x [p0, p1, p2] (crs T0 T1 T2 n0 n1 n2 j) * (pts gl (.cells #[pp p0, pp p1, pp p2] 43 (0, 0)) * (pts g6 (.cells #[.int .i64 n0, .int .i64 n1, .int .i64 n2] 34 (0, 0)) * (tro b p0 p1 p2 k * (fz (.pointer x) (some F) * (row 9 1 v k (sv L) * emp)))))
theorem cr_cell {B : Nat} {w0 w : World} {g6 b : Nat} {x : Option Addr} {p0 p1 p2 gl : Nat} {n0 n1 n2 : Int} {T0 T1 T2 : Tp} {F : Fu} {k : Nat} {v : Value} {L : List (List UInt8)} {m : Nat} (s : St B w0 w (CR g6 b x p0 p1 p2 gl n0 n1 n2 T0 T1 T2 F k v L m)) (j : Nat) (hj : j < 3) :
    w.cell? ⟨gl, j, none⟩ = some (pp ([p0, p1, p2].getD j 0)) ∧ w.cell? ⟨g6, j, none⟩ = some (.int .i64 ([n0, n1, n2].getD j 0)) := by
  have s1 := s.right
  have s2 := s1.right
  obtain rfl | rfl | rfl : j = 0 ∨ j = 1 ∨ j = 2 := by omega
  · exact ⟨s1.cell 0, s2.cell 0⟩
  · exact ⟨s1.cell 1, s2.cell 1⟩
  · exact ⟨s1.cell 2, s2.cell 2⟩
theorem cr_crash {B : Nat} {w0 w : World} {g6 b : Nat} {x : Option Addr} {p0 p1 p2 gl : Nat} {n0 n1 n2 : Int} {T0 T1 T2 : Tp} {F : Fu} {k : Nat} {v : Value} {L : List (List UInt8)} {j : Nat} (s : St B w0 w (CR g6 b x p0 p1 p2 gl n0 n1 n2 T0 T1 T2 F k v L j)) (h0 : n0 ≤ 9223372036854775807) (h1 : n1 ≤ 9223372036854775807) (h2 : n2 ≤ 9223372036854775807) (hj : j < 3) :
    Calls Try.prog 20 #[pp ([p0, p1, p2].getD j 0), .int .i64 ([n0, n1, n2].getD j 0)] w (RetS B w0 (CR g6 b x p0 p1 p2 gl n0 n1 n2 T0 T1 T2 F k v L (j + 1)) (.tuple #[])) := by
  refine (tcrash_calls x [p0, p1, p2] _ j ([n0, n1, n2].getD j 0) ?_ (by simpa using hj) (by simpa [crs] using hj) w s).mono fun e w' h => ?_
  · obtain rfl | rfl | rfl : j = 0 ∨ j = 1 ∨ j = 2 := by omega
    · exact h0
    · exact h1
    · exact h2
  · rw [crs_step _ _ _ _ _ _ _ hj] at h
    exact h
set_option maxRecDepth 100000 in
set_option maxHeartbeats 32000000 in
theorem keeps_walk (a : Option Addr) (ca : Nat) (rs : List (List UInt8)) (fu : Int) (n0 n1 n2 : Int) (lo : Int) (W : World) (hrs : BSS W (.slice a rs.length ca) rs) (_w1 : (Lit.int .i64 fu).wf = true) (_k0 : (Lit.int .i64 n0).wf = true) (_k1 : (Lit.int .i64 n1).wf = true) (_k2 : (Lit.int .i64 n2).wf = true) (_w3 : (Lit.int .i64 lo).wf = true) :
    Calls Try.prog 5 #[.slice a rs.length ca, .int .i64 fu, .agg #[.int .i64 n0, .int .i64 n1, .int .i64 n2], .int .i64 lo] W fun e w' => e = .returned (.bool true) ∧ Below W.heap.size W w' := by
  have hcA := hrs.open'.2.1
  have hcM := hrs.open'.2.2.1
  unfold maxLen at hcM
  have hm0 : n0 ≤ 9223372036854775807 := by simpa [Lit.wf, IntKind.min, IntKind.max, IntKind.signed, IntKind.bits] using (by simpa [Lit.wf, IntKind.min, IntKind.max, IntKind.signed, IntKind.bits] using _k0 : _ ∧ _).2
  have hm1 : n1 ≤ 9223372036854775807 := by simpa [Lit.wf, IntKind.min, IntKind.max, IntKind.signed, IntKind.bits] using (by simpa [Lit.wf, IntKind.min, IntKind.max, IntKind.signed, IntKind.bits] using _k1 : _ ∧ _).2
  have hm2 : n2 ≤ 9223372036854775807 := by simpa [Lit.wf, IntKind.min, IntKind.max, IntKind.signed, IntKind.bits] using (by simpa [Lit.wf, IntKind.min, IntKind.max, IntKind.signed, IntKind.bits] using _k2 : _ ∧ _).2
  have k1 := and_m6 fu
  obtain ⟨m, hm, hm2'⟩ : ∃ m : Nat, fu % 64 = (m : Int) ∧ m < 64 := ⟨(fu % 64).toNat, by omega, by omega⟩
  rw [hm] at k1
  have k2 := and_m2 lo
  obtain ⟨q, hq, hq4⟩ : ∃ m : Nat, lo % 4 = (m : Int) ∧ m < 4 := ⟨(lo % 4).toNat, by omega, by omega⟩
  rw [hq] at k2
  clear hm hq _k0 _k1 _k2 _w1 _w3
  have s0 := (St.init W).alloc (.cells #[.int .i64 n0, .int .i64 n1, .int .i64 n2] 34)
  have S0 := Lib.hid s0
  have Hrs := Lib.hid hrs
  clear hrs
  clear s0
  generalize hY : pts W.heap.size (.cells #[.int .i64 n0, .int .i64 n1, .int .i64 n2] 34 (0, 0)) * emp = Y0 at *
  have HY := Lib.hid hY
  clear hY
  go_enter Try.func5, Try.ntmps5
  go_wp2_with fail
  refine (newFuse_calls 0 _ (by omega) S0.out).mono ?_
  rintro e w1 ⟨fv, rfl, s1⟩
  obtain ⟨fb, rfl, -, -⟩ := fz_some s1
  have S1 := Lib.hid s1
  clear s1 S0
  go_wp2_with fail
  refine (newt_calls (some ⟨fb, 0, none⟩) w1 S1.out).mono ?_
  rintro e w2 ⟨b, p0, p1, p2, rfl, s2⟩
  have S2 := Lib.hid (s2.eq (Q := fz (.pointer (some ⟨fb, 0, none⟩)) (some (Fu.new 0)) * (tro b p0 p1 p2 0 * (tps (some ⟨fb, 0, none⟩) [p0, p1, p2] [Tp.new, Tp.new, Tp.new] * Y0))) (by ac_rfl))
  clear s2 S1
  go_wp2_with fail
  refine (set_calls _ _ ((m : Int) + 1) _ (by omega) S2.out).mono ?_
  rintro e w3 ⟨rfl, s3⟩
  rw [show Fu.new ((m : Int) + 1) = ⟨m + 1, true⟩ by unfold Fu.new; congr 1; exact decide_eq_true (by omega)] at s3
  have S3 := Lib.hid ((s3.rowNil 9 1).eq (Q := row 9 1 (.slice none 0 0) 0 [] * (trx b (some ⟨fb, 0, none⟩) [p0, p1, p2] 0 (fam 3 [] []) (some ⟨m + 1, true⟩) * Y0)) (by rw [trx_eq]; show row 9 1 (.slice none 0 0) 0 [] * (_ * (_ * (tps (some ⟨fb, 0, none⟩) [p0, p1, p2] [Tp.new, Tp.new, Tp.new] * _))) = row 9 1 (.slice none 0 0) 0 [] * (_ * (tps (some ⟨fb, 0, none⟩) [p0, p1, p2] [Tp.new, Tp.new, Tp.new] * _) * _); ac_rfl))
  clear s3 S2
  go_wp2_with fail
  go_loopw [11, 12, 13] (fun v11 v12 i wr => ∃ (k l : Nat), k ≤ rs.length ∧ k ≤ 20 ∧ v12 = .string ⟨#[]⟩ ∧ i = .int .i64 k ∧ (∀ r ∈ rs.take k, okr r) ∧ St W.heap.size W wr (row 9 1 v11 k (sv (rs.take k)) * (trx b (some ⟨fb, 0, none⟩) [p0, p1, p2] k (fam 3 (jn (rs.take k)) []) (some ⟨l, true⟩) * Y0))) (fun _ _ i _ => 20 - (intOf i).toNat)
  case atStart => exact ⟨0, m + 1, Nat.zero_le _, by omega, rfl, rfl, by simp, by simpa [jn, sv] using S3.out⟩
  case round =>
    obtain ⟨k, l, hk, hk20, rfl, rfl, hok, s4⟩ := hrel
    clear S3
    by_cases hlt : k < rs.length ∧ k < 20
    · obtain ⟨hlt, hlt20⟩ := hlt
      obtain ⟨-, -, -, -, us, hr, hlv, hbu⟩ := Hrs.out.open'
      obtain ⟨u, hu, hbu⟩ := hbu k hlt
      obtain ⟨ar, cr, rfl, -⟩ := id hbu
      obtain ⟨b1, o1, rfl, hc⟩ := hr.at (by rintro rfl; rw [List.length_nil] at hlv; omega)
      have hc0' := hc k _ hu
      have hcl : ∀ w, Below W.heap.size W w → w.cell? ⟨b1, o1 + k, none⟩ = some (.slice ar rs[k].length cr) := fun w h => Add.cell h hc0'
      have hbs : ∀ w, Below W.heap.size W w → BS w (.slice ar rs[k].length cr) rs[k] := fun w h => hbu.below h
      have hcw := hcl wr s4.below
      have hrm : (rs[k].length : Int) ≤ 9223372036854775807 := by have := hbu.rd.2; unfold maxLen at this; omega
      have hjl := jn_len_max _ hok
      have hsu : rs.take (k + 1) = rs.take k ++ [rs[k]] := List.take_succ_eq_append_getElem hlt
      have hlL : (rs.take k).length = k := by rw [List.length_take]; omega
      rw [hlL] at hjl
      have t1 : (k : Int) < (rs.length : Int) := by omega
      have t2 : (k : Int) < 20 := by omega
      generalize rs.take k = L at *
      generalize rs[k] = r at *
      have Hcl := Lib.hid hcl
      have Hbs := Lib.hid hbs
      have Hsu := Lib.hid hsu
      have Hok := Lib.hid hok
      have HlL := Lib.hid hlL
      clear hcl hbs hsu hok hlL
      clear hr hlv hbu hc hu hc0'
      obtain ⟨av, cv, rfl, -⟩ := s4.rowSlice
      by_cases hr3 : 1 ≤ r.length ∧ r.length ≤ 250
      · have hor : okr r := hr3
        have h1 : ((r.length : Int) == 0) = false := by rw [beq_eq_false_iff_ne]; omega
        have h2 : ¬ (250 : Int) < (r.length : Int) := by omega
        have qa := tappend_calls (some ⟨l, true⟩) (fam 3 (jn L) []) k r b p0 p1 p2 (some ⟨fb, 0, none⟩) ar cr rfl (by omega) (by omega) wr (R := row 9 1 (.slice av k cv) k (sv L) * Y0) (reads_arg _ (Hbs.out W (Below.refl _ _))) (s4.eq (by ac_rfl))
        by_cases hl4 : 4 ≤ l
        · rw [app_live (jn L) k l r hor (by omega) hl4] at qa
          have Qa := Lib.hid qa
          have e1 : jn L ++ jn1 r = jn (L ++ [r]) := (jn_snoc L r).symm
          have E1 := Lib.hid e1
          clear e1
          clear qa hr3 s4
          go_wp2_with fail
          refine Qa.out.mono ?_
          rintro e w5 ⟨rfl, s5⟩
          have s5 : St W.heap.size W w5 (trx b (some ⟨fb, 0, none⟩) [p0, p1, p2] (k + 1) (fam 3 (jn L ++ jn1 r) []) (some ⟨l - 3, true⟩) * (row 9 1 (.slice av k cv) k (sv L) * Y0)) := s5
          rw [E1.out] at s5
          have hcw := Hcl.out w5 s5.below
          have hcv : (convert 23 9 (.slice ar r.length cr)).run Try.prog w5 = .ok (str r) w5 := run_str (P := Try.prog) Try.underlying23 Try.underlying5 Try.underlying9 (Hbs.out _ s5.below)
          have S5 := Lib.hid s5
          clear s5 Qa
          have S6 := Lib.hid (St.eq (Q := row 9 1 (.slice av k cv) k (sv L) * (pts w5.heap.size (.cells #[str r] 9) * (trx b (some ⟨fb, 0, none⟩) [p0, p1, p2] (k + 1) (fam 3 (jn (L ++ [r])) []) (some ⟨l - 3, true⟩) * Y0))) (by ac_rfl) (S5.out.alloc (.cells #[str r] 9)))
          have hrd := Lib.hid (Rd.new w5 #[str r] 9)
          clear S5
          go_wp2_with (at_builtin; go_must (refine wpl_append rfl _ _ rfl tSS S6.out (some ⟨w5.heap.size, 0, none⟩) 1 1 [str r] rfl rfl hrd.out (fun e => by cases e) (by simp) (by simp [Value.oneCell']) (by unfold maxLen; omega) (by omega) ?_); intro v6 w6 s6 hv6; have S7 := Lib.hid s6; clear s6 hv6 S6 hrd)
          go_roundw
          case rel =>
            have e2 : sv (L ++ [r]) = sv L ++ [str r] := by simp [sv]
            refine ⟨k + 1, l - 3, by omega, by omega, rfl, by go_num, ?_, ?_⟩
            · rw [Hsu.out]
              intro x hx
              rcases List.mem_append.1 hx with h | h
              · exact Hok.out x h
              · rw [List.mem_singleton.1 h]; exact hor
            · rw [Hsu.out, e2]
              exact ((S7.out.eq (sep_left_comm _ _ _)).right).eq (by ac_rfl)
          case measure => simp [intOf]; omega
        · rw [app_dead (jn L) k l r hor (by omega) (by omega)] at qa
          have Qa := Lib.hid qa
          generalize decide (0 < l) = g0 at *
          generalize decide (1 < l) = g1 at *
          generalize decide (2 < l) = g2 at *
          clear qa hr3 s4
          go_wp2_with fail
          refine Qa.out.mono ?_
          rintro e w5 ⟨rfl, s5⟩
          have hcw := Hcl.out w5 s5.below
          obtain ⟨nx, hnx⟩ : ∃ nx : List UInt8, nx = r := ⟨_, rfl⟩
          have hcv : (convert 23 9 (.slice ar r.length cr)).run Try.prog w5 = .ok (str nx) w5 := by rw [hnx]; exact run_str (P := Try.prog) Try.underlying23 Try.underlying5 Try.underlying9 (Hbs.out _ s5.below)
          obtain ⟨F, hF⟩ : ∃ F : Fu, F = ⟨0, true⟩ := ⟨_, rfl⟩
          have S8 := Lib.hid (show St W.heap.size W w5 (trx b (some ⟨fb, 0, none⟩) [p0, p1, p2] k [lt (jn L) (jn1 r) g0, lt (jn L) (jn1 r) g1, lt (jn L) (jn1 r) g2] (some F) * (row 9 1 (.slice av k cv) k (sv L) * Y0)) by rw [hF]; exact s5)
          have hn : nx = r ∨ nx = [] ∧ g0 = false ∧ g1 = false ∧ g2 = false := .inl hnx
          have Hn := Lib.hid hn
          have Hor := Lib.hid hor
          clear hn hor
          clear s5 Qa hF hnx hl4
          go_wp2_with fail
          refine (tapes_calls b p0 p1 p2 k _ (R := tps (some ⟨fb, 0, none⟩) [p0, p1, p2] [lt (jn L) (jn1 r) g0, lt (jn L) (jn1 r) g1, lt (jn L) (jn1 r) g2] * (fz (.pointer (some ⟨fb, 0, none⟩)) (some F) * (row 9 1 (.slice av k cv) k (sv L) * Y0))) (S8.out.eq (by rw [trx_eq]; ac_rfl))).mono ?_
          rintro e w9 ⟨rfl, s9⟩
          have s9a := s9.alloc (.cells #[pp p0, pp p1, pp p2] 43)
          have S9 := Lib.hid s9a
          clear s9 s9a S8
          go_wp2_with fail
          generalize w9.alloc (.cells #[.pointer (some ⟨p0, 0, none⟩), .pointer (some ⟨p1, 0, none⟩), .pointer (some ⟨p2, 0, none⟩)] 43) = w10 at *
          generalize w9.heap.size = gl at *
          go_loopw [16] (fun i wr => ∃ j : Nat, j ≤ 3 ∧ i = .int .i64 j ∧ St W.heap.size W wr (CR W.heap.size b (some ⟨fb, 0, none⟩) p0 p1 p2 gl n0 n1 n2 (lt (jn L) (jn1 r) g0) (lt (jn L) (jn1 r) g1) (lt (jn L) (jn1 r) g2) F k (.slice av k cv) L j)) (fun i _ => 3 - (intOf i).toNat)
          case atStart => exact ⟨0, Nat.zero_le _, rfl, S9.out.eq (by rw [← HY.out]; unfold CR; show _ = tps _ _ [lt (jn L) (jn1 r) g0, lt (jn L) (jn1 r) g1, lt (jn L) (jn1 r) g2] * _; ac_rfl)⟩
          case round =>
            obtain ⟨j, hj, rfl, s10⟩ := hrel
            clear S9
            by_cases hjt : j < 3
            · have hjI : (j : Int) < 3 := by omega
              obtain ⟨pj, hpj⟩ : ∃ z, [p0, p1, p2].getD j 0 = z := ⟨_, rfl⟩
              obtain ⟨nj, hnj⟩ : ∃ z, [n0, n1, n2].getD j 0 = z := ⟨_, rfl⟩
              have hg1 := fun (m : Nat) (w : World) (s : St W.heap.size W w (CR W.heap.size b (some ⟨fb, 0, none⟩) p0 p1 p2 gl n0 n1 n2 (lt (jn L) (jn1 r) g0) (lt (jn L) (jn1 r) g1) (lt (jn L) (jn1 r) g2) F k (.slice av k cv) L m)) => (cr_cell s j hjt).1
              have hg2 := fun (m : Nat) (w : World) (s : St W.heap.size W w (CR W.heap.size b (some ⟨fb, 0, none⟩) p0 p1 p2 gl n0 n1 n2 (lt (jn L) (jn1 r) g0) (lt (jn L) (jn1 r) g1) (lt (jn L) (jn1 r) g2) F k (.slice av k cv) L m)) => (cr_cell s j hjt).2
              have hcc := fun (w : World) (s : St W.heap.size W w (CR W.heap.size b (some ⟨fb, 0, none⟩) p0 p1 p2 gl n0 n1 n2 (lt (jn L) (jn1 r) g0) (lt (jn L) (jn1 r) g1) (lt (jn L) (jn1 r) g2) F k (.slice av k cv) L j)) => cr_crash s hm0 hm1 hm2 hjt
              rw [hpj] at hg1 hcc
              rw [hnj] at hg2 hcc
              have c1 := hg1 j wr s10
              have S10 := Lib.hid s10
              have Hg1 := Lib.hid hg1
              have Hg2 := Lib.hid hg2
              have Hcc := Lib.hid hcc
              clear hg1 hg2 hcc
              clear s10 hpj hnj
              go_wp2_with fail
              refine wp_region_rx (fun i w => St W.heap.size W w (CR W.heap.size b (some ⟨fb, 0, none⟩) p0 p1 p2 gl n0 n1 n2 (lt (jn L) (jn1 r) g0) (lt (jn L) (jn1 r) g1) (lt (jn L) (jn1 r) g2) F k (.slice av k cv) L (if i = 0 then j else j + 1))) [6] mixed (by kernel_rfl) (by kernel_rfl) S10.out.drew ?_
              refine RXl.exact (.int .i64 j) rfl rfl rfl rfl rfl (fun _ _ _ _ _ => rfl) ?_
              refine RXl.exact (.pointer (some ⟨gl, j, none⟩)) rfl rfl rfl rfl rfl (fun j τ w' hj hJ => by simp [rho, upd, Spec.val, execOp, go_sem, hjI]) ?_
              refine RXl.exact (pp pj) rfl rfl rfl rfl rfl (fun j τ w' hj hJ => by have c := Hg1.out _ _ hJ; simp [rho, upd, Spec.val, execOp, go_sem, c]) ?_
              refine RXl.exact (.int .i64 j) rfl rfl rfl rfl rfl (fun _ _ _ _ _ => rfl) ?_
              refine RXl.exact (.pointer (some ⟨W.heap.size, j, none⟩)) rfl rfl rfl rfl rfl (fun j τ w' hj hJ => by simp [rho, upd, Spec.val, execOp, go_sem, hjI]) ?_
              refine RXl.exact (.int .i64 nj) rfl rfl rfl rfl rfl (fun j τ w' hj hJ => by have c := Hg2.out _ _ hJ; simp [rho, upd, Spec.val, execOp, go_sem, c]) ?_
              refine RXl.callj 0 (.tuple #[]) _ [pp pj, .int .i64 nj] [.tmp 96, .tmp 99] _ rfl rfl rfl rfl rfl rfl (fun _ => rfl) (fun w' hJ => Hcc.out w' hJ) ?_
              refine RXl.nilx _ (Agr.upd _ _ (Agr.upd _ _ (Agr.upd _ _ (Agr.upd _ _ (Agr.upd _ _ (Agr.upd _ _ (Agr.upd _ _ (Agr.base _)))))))) fun w12 hJ => ?_
              obtain ⟨_, hJ⟩ := hJ
              simp only [Act.put, List.setIfInBounds_toArray, List.set_cons_succ, List.set_cons_zero]
              have S11 := Lib.hid (show St W.heap.size W w12 (CR W.heap.size b (some ⟨fb, 0, none⟩) p0 p1 p2 gl n0 n1 n2 (lt (jn L) (jn1 r) g0) (lt (jn L) (jn1 r) g1) (lt (jn L) (jn1 r) g2) F k (.slice av k cv) L (j + 1)) from hJ)
              clear hJ S10 c1
              go_wp2_with fail
              go_roundw
              case rel => exact ⟨j + 1, by omega, by go_num, S11.out⟩
              case measure => simp [intOf]; omega
            · obtain rfl : j = 3 := by omega
              have hkp := kp_crash L r g0 g1 g2 n0 n1 n2 nx Hn.out
              have hlv := crs_live L r g0 g1 g2 n0 n1 n2
              unfold CR at s10
              generalize crs (lt (jn L) (jn1 r) g0) (lt (jn L) (jn1 r) g1) (lt (jn L) (jn1 r) g2) n0 n1 n2 3 = Ts at *
              by_cases hq3 : q < 3
              · have t4 : (q : Int) < 3 := by omega
                have s11 := s10.eq (Q := pts gl (.cells #[pp p0, pp p1, pp p2] 43 (0, 0)) * (tps (some ⟨fb, 0, none⟩) [p0, p1, p2] Ts * (pts W.heap.size (.cells #[.int .i64 n0, .int .i64 n1, .int .i64 n2] 34 (0, 0)) * (tro b p0 p1 p2 k * (fz (.pointer (some ⟨fb, 0, none⟩)) (some F) * (row 9 1 (.slice av k cv) k (sv L) * emp)))))) (by ac_rfl)
                have c1 : wr.cell? ⟨gl, q, none⟩ = some (pp ([p0, p1, p2].getD q 0)) := by
                  obtain rfl | rfl | rfl : q = 0 ∨ q = 1 ∨ q = 2 := by omega
                  · exact s11.cell 0
                  · exact s11.cell 1
                  · exact s11.cell 2
                have qf := tfail_calls (some ⟨fb, 0, none⟩) [p0, p1, p2] Ts q (by simpa using hq3) (by rw [hkp.1]; exact hq3) wr s10
                have hkp := kp_fail hkp hlv q hq3
                generalize [p0, p1, p2].getD q 0 = pq at *
                generalize Ts.set q ⟨(Ts.getD q Tp.new).b, (Ts.getD q Tp.new).loose, true⟩ = Ts1 at *
                have Qf := Lib.hid qf
                have Hkp := Lib.hid hkp
                clear hkp
                clear s10 s11 qf hlv
                go_wp2_with fail
                refine Qf.out.mono ?_
                rintro e w10 ⟨rfl, s12⟩
                have S10 := Lib.hid (s12.eq (Q := fz (.pointer (some ⟨fb, 0, none⟩)) (some F) * (tro b p0 p1 p2 k * (tps (some ⟨fb, 0, none⟩) [p0, p1, p2] Ts1 * (pts gl (.cells #[pp p0, pp p1, pp p2] 43 (0, 0)) * (pts W.heap.size (.cells #[.int .i64 n0, .int .i64 n1, .int .i64 n2] 34 (0, 0)) * (row 9 1 (.slice av k cv) k (sv L) * emp)))))) (by ac_rfl))
                clear s12 Qf c1
                go_wp2_with fail
                refine (set_calls _ _ 0 _ (by omega) S10.out).mono ?_
                rintro e w11 ⟨rfl, s11⟩
                have S11 := Lib.hid s11
                clear s11 S10
                go_wp2_with fail
                go_loopw [11, 12, 17] (fun v11 v12 i wr => ∃ (j : Nat) (L' : List (List UInt8)) (nx' : List UInt8) (Ts' : List Tp) (Z : HP) (vz : Value), j ≤ 2 ∧ vz = v11 ∧ i = .int .i64 j ∧ v12 = str nx' ∧ (j ≠ 0 → nx' = []) ∧ (∀ x ∈ L', okr x) ∧ (jn L').length ≤ 251 * (20 + j) ∧ L'.length ≤ 20 + j ∧ Kp L' r nx' Ts' ∧
                  St W.heap.size W wr (Z * (row 9 1 vz L'.length (sv L') * (tps (some ⟨fb, 0, none⟩) [p0, p1, p2] Ts' * (fz (.pointer (some ⟨fb, 0, none⟩)) (some (Fu.new 0)) * pts gl (.cells #[pp p0, pp p1, pp p2] 43 (0, 0))))))) (fun _ _ i _ => 2 - (intOf i).toNat)
                case atStart => exact ⟨0, L, nx, _, tro b p0 p1 p2 k * (pts W.heap.size (.cells #[.int .i64 n0, .int .i64 n1, .int .i64 n2] 34 (0, 0)) * emp), _, by omega, rfl, rfl, rfl, fun h => absurd rfl h, Hok.out, by omega, by rw [HlL.out]; omega, Hkp.out, by rw [HlL.out]; exact S11.out.eq (by ac_rfl)⟩
                case round =>
                  obtain ⟨j, L', nx', Ts', Z, v11, hj, rfl, rfl, rfl, hj0, hokL, hjL, hlL', hkp, s12⟩ := hrel
                  clear S11
                  by_cases hjt : j < 2
                  · have t3 : (j : Int) < 2 := by omega
                    obtain ⟨f, Ts2, hf, hkp2, hop⟩ := kp_open W.heap.size W p0 p1 p2 (some ⟨fb, 0, none⟩) (row 9 1 v11 L'.length (sv L') * (pts gl (.cells #[pp p0, pp p1, pp p2] 43 (0, 0)) * Z)) und_zero hokL Hor.out hkp (by have := Hor.out.2; rw [jn1_len]; omega)
                    have hlen2 : (L' ++ tl f r).length ≤ 20 + (j + 1) := by rw [List.length_append]; cases f <;> simp [tl] <;> omega
                    have hjn2 : (jn (L' ++ tl f r)).length ≤ 251 * (20 + (j + 1)) := by
                      have := Hor.out.2
                      cases f <;> simp [tl, jn_snoc, jn1_len] <;> omega
                    have hok2 : ∀ x ∈ L' ++ tl f r, okr x := by
                      intro x hx
                      rcases List.mem_append.1 hx with h | h
                      · exact hokL x h
                      · cases f <;> simp [tl] at h
                        subst h
                        exact Hor.out
                    have hT3 := hkp.1
                    have s13 := s12.eq (Q := pts gl (.cells #[pp p0, pp p1, pp p2] 43 (0, 0)) * (Z * (row 9 1 v11 L'.length (sv L') * (tps (some ⟨fb, 0, none⟩) [p0, p1, p2] Ts' * fz (.pointer (some ⟨fb, 0, none⟩)) (some (Fu.new 0)))))) (by ac_rfl)
                    have c0 := s13.cell 0
                    have c1 := s13.cell 1
                    have c2 := s13.cell 2
                    simp at c0 c1 c2
                    obtain ⟨a11, c11, rfl, -⟩ := (s12.eq (Q := row 9 1 v11 L'.length (sv L') * (Z * (tps (some ⟨fb, 0, none⟩) [p0, p1, p2] Ts' * (fz (.pointer (some ⟨fb, 0, none⟩)) (some (Fu.new 0)) * pts gl (.cells #[pp p0, pp p1, pp p2] 43 (0, 0)))))) (by ac_rfl)).rowSlice
                    have S12 := Lib.hid s12
                    have Hf := Lib.hid hf
                    have Hkp2 := Lib.hid hkp2
                    have Hop := Lib.hid hop
                    have Hok2 := Lib.hid hok2
                    have Hlen2 := Lib.hid hlen2
                    have Hjn2 := Lib.hid hjn2
                    have Hj0 := Lib.hid hj0
                    clear hf hkp2 hop hok2 hlen2 hjn2 hj0
                    clear s12 s13 hokL hkp
                    go_wp2_with fail
                    clear c0 c1 c2
                    refine (open_calls (some (Fu.new 0)) Ts' p0 p1 p2 (some ⟨fb, 0, none⟩) hT3 wr (R := row 9 1 (.slice a11 L'.length c11) L'.length (sv L') * (pts gl (.cells #[pp p0, pp p1, pp p2] 43 (0, 0)) * Z)) (S12.out.eq (by ac_rfl))).mono ?_
                    intro e w13 h
                    obtain ⟨X, b5, v5, vs5, rfl, hbr, s14⟩ := Hop.out _ _ h
                    have hL2 : (L' ++ tl f r).length ≤ 1000000 := by have := Hlen2.out; omega
                    generalize hLs : L' ++ tl f r = Ls at *
                    obtain ⟨A5, c5, rfl, h51, h52, h53, h54⟩ := hbr.val
                    have S14 := Lib.hid s14
                    have Hbr := Lib.hid hbr
                    have H53 := Lib.hid h53
                    have H54 := Lib.hid h54
                    have HLs := Lib.hid hLs
                    clear hbr h53 h54 hLs
                    clear s14 S12 h
                    go_wp2_with fail
                    obtain ⟨R14, hR14⟩ : ∃ ZZ, ZZ = X * (trx b5 (some ⟨fb, 0, none⟩) [p0, p1, p2] Ls.length Ts2 (some (Fu.new 0)) * (row 9 1 (.slice a11 L'.length c11) L'.length (sv L') * (pts gl (.cells #[pp p0, pp p1, pp p2] 43 (0, 0)) * Z))) := ⟨_, rfl⟩
                    have hrd : ∀ w' H, St W.heap.size W w' (H * R14) → BSS w' (.slice A5 Ls.length c5) Ls := fun w' H s => by
                      rw [hR14] at s
                      exact Hbr.out.bss (H := H * (trx b5 (some ⟨fb, 0, none⟩) [p0, p1, p2] Ls.length Ts2 (some (Fu.new 0)) * (row 9 1 (.slice a11 L'.length c11) L'.length (sv L') * (pts gl (.cells #[pp p0, pp p1, pp p2] 43 (0, 0)) * Z)))) (s.eq (by ac_rfl))
                    have s14 : St W.heap.size W w13 R14 := by rw [hR14]; exact S14.out
                    refine (strings_calls (.slice A5 Ls.length c5) Ls w13 hrd hL2 s14).mono ?_
                    clear hrd s14
                    rintro e w14 ⟨v7, rfl, s15⟩
                    obtain ⟨a7, c7, rfl, -⟩ := s15.rowSlice
                    have sl7 := St.sl _ s15
                    rw [hR14] at s15
                    have s16 := s15.eq (Q := row 9 1 (.slice a11 L'.length c11) L'.length (sv L') * (row 9 1 (.slice a7 Ls.length c7) Ls.length (sv Ls) * (X * (trx b5 (some ⟨fb, 0, none⟩) [p0, p1, p2] Ls.length Ts2 (some (Fu.new 0)) * (pts gl (.cells #[pp p0, pp p1, pp p2] 43 (0, 0)) * Z))))) (by ac_rfl)
                    have sl11 := St.sl _ s16
                    have qs := same_calls (.slice a7 Ls.length c7) (.slice a11 L'.length c11) Ls L' w14 sl7 sl11
                    have S16 := Lib.hid s16
                    clear s15 s16 sl7 sl11 S14 hR14
                    cases f with
                    | false =>
                      have e1 : Ls = L' := by rw [← HLs.out]; simp [tl]
                      rw [decide_eq_true e1] at qs
                      have Qs := Lib.hid qs
                      have E1 := Lib.hid e1
                      clear e1
                      clear qs
                      go_wp2_with fail
                      refine Qs.out.mono ?_
                      rintro e w15 ⟨rfl, had⟩
                      have S17 := Lib.hid (S16.out.keep had)
                      clear had S16 Qs
                      have hZ : row 9 1 (.slice a11 L'.length c11) L'.length (sv L') * (row 9 1 (.slice a7 Ls.length c7) Ls.length (sv Ls) * (X * (trx b5 (some ⟨fb, 0, none⟩) [p0, p1, p2] Ls.length Ts2 (some (Fu.new 0)) * (pts gl (.cells #[pp p0, pp p1, pp p2] 43 (0, 0)) * Z)))) =
                          (row 9 1 (.slice a11 L'.length c11) L'.length (sv L') * (X * (tro b5 p0 p1 p2 Ls.length * Z))) * (row 9 1 (.slice a7 Ls.length c7) Ls.length (sv Ls) * (tps (some ⟨fb, 0, none⟩) [p0, p1, p2] Ts2 * (fz (.pointer (some ⟨fb, 0, none⟩)) (some (Fu.new 0)) * pts gl (.cells #[pp p0, pp p1, pp p2] 43 (0, 0))))) := by
                        rw [trx_eq]; ac_rfl
                      have hZ2 : row 9 1 (.slice a11 L'.length c11) L'.length (sv L') * (row 9 1 (.slice a7 Ls.length c7) Ls.length (sv Ls) * (X * (trx b5 (some ⟨fb, 0, none⟩) [p0, p1, p2] Ls.length Ts2 (some (Fu.new 0)) * (pts gl (.cells #[pp p0, pp p1, pp p2] 43 (0, 0)) * Z)))) =
                          (row 9 1 (.slice a7 Ls.length c7) Ls.length (sv Ls) * (X * (tro b5 p0 p1 p2 Ls.length * Z))) * (row 9 1 (.slice a11 L'.length c11) L'.length (sv L') * (tps (some ⟨fb, 0, none⟩) [p0, p1, p2] Ts2 * (fz (.pointer (some ⟨fb, 0, none⟩)) (some (Fu.new 0)) * pts gl (.cells #[pp p0, pp p1, pp p2] 43 (0, 0))))) := by
                        rw [trx_eq]; ac_rfl
                      have S18 := Lib.hid (S17.out.eq hZ)
                      have S19 := Lib.hid (S17.out.eq hZ2)
                      clear hZ hZ2 S17
                      by_cases hj1 : j = 0
                      · subst hj1
                        go_wp2_with fail
                        go_roundw
                        case rel => exact ⟨1, Ls, [], Ts2, _, _, by omega, rfl, rfl, rfl, fun _ => rfl, Hok2.out, by have := Hjn2.out; omega, by have := Hlen2.out; omega, Hkp2.out, S18.out⟩
                        case measure => simp [intOf]
                      · have t5 : ((j : Int) == 0) = false := by rw [beq_eq_false_iff_ne]; omega
                        have H51 := Lib.hid (Hj0.out hj1)
                        have hj11 : j = 1 := by omega
                        subst hj11
                        go_wp2_with fail
                        go_roundw
                        case rel =>
                          have e51 := H51.out
                          exact ⟨2, L', nx', Ts2, _, _, by omega, rfl, rfl, rfl, fun _ => e51, by have := Hok2.out; rw [E1.out] at this; exact this, by have := Hjn2.out; rw [E1.out] at this; omega, by have := Hlen2.out; rw [E1.out] at this; omega, by have := Hkp2.out; rw [E1.out] at this; rw [e51]; exact this, S19.out⟩
                        case measure => simp [intOf]
                    | true =>
                      have e1 : Ls ≠ L' := by rw [← HLs.out]; simp [tl]
                      have e2 : nx' = r := by rcases Hf.out with h | h; · cases h
                                              · exact h
                      have e3 : j = 0 := by
                        by_cases h : j = 0
                        · exact h
                        · have := Hj0.out h
                          rw [e2] at this
                          exact absurd Hor.out.1 (by rw [this]; simp)
                      subst e3
                      subst e2
                      have e5 : Ls = L' ++ [nx'] := HLs.out.symm
                      rw [decide_eq_false e1] at qs
                      have Qs := Lib.hid qs
                      have E5 := Lib.hid e5
                      clear e5
                      clear qs e1
                      go_wp2_with fail
                      refine Qs.out.mono ?_
                      rintro e w15 ⟨rfl, had⟩
                      have S17 := Lib.hid (S16.out.keep had)
                      clear had S16 Qs
                      have s18 := (S17.out.alloc (.cells #[] 9)).rowMk (e := 9) (size := 1) (n := 0) (cap := 0) (by omega) (by unfold maxLen; omega) (by simp) rfl
                      have S18 := Lib.hid s18
                      clear s18
                      have hrd2 : ∀ w H, St W.heap.size W w (H * (row 9 1 (.slice a11 L'.length c11) L'.length (sv L') * (row 9 1 (.slice a7 Ls.length c7) Ls.length (sv Ls) * (X * (trx b5 (some ⟨fb, 0, none⟩) [p0, p1, p2] Ls.length Ts2 (some (Fu.new 0)) * (pts gl (.cells #[pp p0, pp p1, pp p2] 43 (0, 0)) * Z)))))) → Rd w a11 (sv L') := fun w H s =>
                        (s.eq (sep_left_comm _ _ _)).rowRd
                      have Hrd2 := Lib.hid hrd2
                      clear hrd2
                      have hne : ¬ nx' = [] := by intro e; exact absurd Hor.out.1 (by rw [e]; simp)
                      have hne2 : nx'.isEmpty = false := by simpa using hne
                      have HLX := Lib.hid (show L'.length ≤ 20 by omega)
                      have hov : ∀ u ∈ sv L', u.oneCell' = true := by intro u hu; simp [sv] at hu; obtain ⟨_, _, rfl⟩ := hu; rfl
                      have Hov := Lib.hid hov
                      clear hov
                      have hnn := (S17.out.rowSlice)
                      obtain ⟨_, _, hcq, -, -, hnn, -⟩ := hnn
                      cases hcq
                      have Hnn := Lib.hid hnn
                      clear hnn
                      go_wp2_with (at_builtin; (first
                        | (refine wpl_append_g (by simp [Region.wanted, yielded, hne]) _ _ rfl tSS S18.out a11 L'.length c11 (sv L') rfl rfl (Hrd2.out _ _ S18.out) Hnn.out (by simp [sv]) Hov.out (by have := HLX.out; unfold maxLen; omega) (by have := HLX.out; omega) ?_; intro v18 w18 s18; clear S18; have S20 := Lib.hid (show St W.heap.size W (w18.alloc (.cells #[str nx'] 9)) (row 9 1 v18 (0 + L'.length) (List.take (0 * 1) [] ++ sv L') * (pts w18.heap.size (.cells #[str nx'] 9) * (row 9 1 (.slice a11 L'.length c11) L'.length (sv L') * (row 9 1 (.slice a7 Ls.length c7) Ls.length (sv Ls) * (X * (trx b5 (some ⟨fb, 0, none⟩) [p0, p1, p2] Ls.length Ts2 (some (Fu.new 0)) * (pts gl (.cells #[pp p0, pp p1, pp p2] 43 (0, 0)) * Z))))))) from (s18.alloc (.cells #[str nx'] 9)).eq (sep_left_comm _ _ _)); have hrd3 := Lib.hid (Rd.new w18 #[str nx'] 9); clear s18)
                        | (refine wpl_append_g (by simp [Region.wanted, yielded, hne]) _ _ rfl tSS S20.out (some ⟨w18.heap.size, 0, none⟩) 1 1 [str nx'] rfl rfl hrd3.out (fun e => by cases e) (by simp) (by simp [Value.oneCell']) (by have := HLX.out; unfold maxLen; omega) (by have := HLX.out; omega) ?_; intro v19 w19 s19; have S21 := Lib.hid s19; clear s19 S20 hrd3)))
                      have e6 : sv Ls = List.take (0 * 1) [] ++ sv L' ++ [str nx'] := by rw [E5.out]; simp [sv]
                      have e7 : 0 + L'.length + 1 = Ls.length := by rw [E5.out]; simp
                      have s21 := S21.out
                      rw [← e6, e7] at s21
                      have hsl := St.sl _ s21
                      have hsl2 := St.sl _ (s21.eq (Q := row 9 1 (.slice a7 Ls.length c7) Ls.length (sv Ls) * (row 9 1 v19 Ls.length (sv Ls) * (pts w18.heap.size (.cells #[str nx'] 9) * (row 9 1 (.slice a11 L'.length c11) L'.length (sv L') * (X * (trx b5 (some ⟨fb, 0, none⟩) [p0, p1, p2] Ls.length Ts2 (some (Fu.new 0)) * (pts gl (.cells #[pp p0, pp p1, pp p2] 43 (0, 0)) * Z))))))) (by ac_rfl))
                      have qs := same_calls (.slice a7 Ls.length c7) v19 Ls Ls w19 hsl2 hsl
                      rw [decide_eq_true rfl] at qs
                      refine qs.mono ?_
                      rintro e w20 ⟨rfl, had⟩
                      have hZ : row 9 1 v19 Ls.length (sv Ls) * (pts w18.heap.size (.cells #[str nx'] 9) * (row 9 1 (.slice a11 L'.length c11) L'.length (sv L') * (row 9 1 (.slice a7 Ls.length c7) Ls.length (sv Ls) * (X * (trx b5 (some ⟨fb, 0, none⟩) [p0, p1, p2] Ls.length Ts2 (some (Fu.new 0)) * (pts gl (.cells #[pp p0, pp p1, pp p2] 43 (0, 0)) * Z)))))) =
                          (row 9 1 v19 Ls.length (sv Ls) * (pts w18.heap.size (.cells #[str nx'] 9) * (row 9 1 (.slice a11 L'.length c11) L'.length (sv L') * (X * (tro b5 p0 p1 p2 Ls.length * Z))))) * (row 9 1 (.slice a7 Ls.length c7) Ls.length (sv Ls) * (tps (some ⟨fb, 0, none⟩) [p0, p1, p2] Ts2 * (fz (.pointer (some ⟨fb, 0, none⟩)) (some (Fu.new 0)) * pts gl (.cells #[pp p0, pp p1, pp p2] 43 (0, 0))))) := by
                        rw [trx_eq]; ac_rfl
                      have S22 := Lib.hid ((s21.keep had).eq hZ)
                      clear s21 S21 S17 hsl hsl2 qs e6 e7 hZ had hne
                      go_wp2_with fail
                      go_roundw
                      case rel => exact ⟨1, Ls, [], Ts2, _, _, by omega, rfl, rfl, rfl, fun _ => rfl, Hok2.out, by have := Hjn2.out; omega, by have := Hlen2.out; omega, Hkp2.out, S22.out⟩
                      case measure => simp [intOf]
                  · obtain rfl : j = 2 := by omega
                    have S12 := Lib.hid s12
                    clear s12 hkp hokL
                    go_wp2_with fail
                    refine (awake_calls _).mono ?_
                    rintro e w13 ⟨rfl, h2⟩
                    have HA := Lib.hid (S12.out.keep h2)
                    clear h2 S12
                    go_wp2_with fail
                    go_ret
                    exact ⟨rfl, HA.out.below⟩
              · have t4 : ¬ (q : Int) < 3 := by omega
                have Hkp := Lib.hid hkp
                clear hkp
                have S10 := Lib.hid (s10.eq (Q := fz (.pointer (some ⟨fb, 0, none⟩)) (some F) * (tro b p0 p1 p2 k * (tps (some ⟨fb, 0, none⟩) [p0, p1, p2] Ts * (pts gl (.cells #[pp p0, pp p1, pp p2] 43 (0, 0)) * (pts W.heap.size (.cells #[.int .i64 n0, .int .i64 n1, .int .i64 n2] 34 (0, 0)) * (row 9 1 (.slice av k cv) k (sv L) * emp)))))) (by ac_rfl))
                clear s10 hlv
                go_wp2_with fail
                refine (set_calls _ _ 0 _ (by omega) S10.out).mono ?_
                rintro e w11 ⟨rfl, s11⟩
                have S11 := Lib.hid s11
                clear s11 S10
                go_wp2_with fail
                go_loopw [11, 12, 17] (fun v11 v12 i wr => ∃ (j : Nat) (L' : List (List UInt8)) (nx' : List UInt8) (Ts' : List Tp) (Z : HP) (vz : Value), j ≤ 2 ∧ vz = v11 ∧ i = .int .i64 j ∧ v12 = str nx' ∧ (j ≠ 0 → nx' = []) ∧ (∀ x ∈ L', okr x) ∧ (jn L').length ≤ 251 * (20 + j) ∧ L'.length ≤ 20 + j ∧ Kp L' r nx' Ts' ∧
                  St W.heap.size W wr (Z * (row 9 1 vz L'.length (sv L') * (tps (some ⟨fb, 0, none⟩) [p0, p1, p2] Ts' * (fz (.pointer (some ⟨fb, 0, none⟩)) (some (Fu.new 0)) * pts gl (.cells #[pp p0, pp p1, pp p2] 43 (0, 0))))))) (fun _ _ i _ => 2 - (intOf i).toNat)
                case atStart => exact ⟨0, L, nx, _, tro b p0 p1 p2 k * (pts W.heap.size (.cells #[.int .i64 n0, .int .i64 n1, .int .i64 n2] 34 (0, 0)) * emp), _, by omega, rfl, rfl, rfl, fun h => absurd rfl h, Hok.out, by omega, by rw [HlL.out]; omega, Hkp.out, by rw [HlL.out]; exact S11.out.eq (by ac_rfl)⟩
                case round =>
                  obtain ⟨j, L', nx', Ts', Z, v11, hj, rfl, rfl, rfl, hj0, hokL, hjL, hlL', hkp, s12⟩ := hrel
                  clear S11
                  by_cases hjt : j < 2
                  · have t3 : (j : Int) < 2 := by omega
                    obtain ⟨f, Ts2, hf, hkp2, hop⟩ := kp_open W.heap.size W p0 p1 p2 (some ⟨fb, 0, none⟩) (row 9 1 v11 L'.length (sv L') * (pts gl (.cells #[pp p0, pp p1, pp p2] 43 (0, 0)) * Z)) und_zero hokL Hor.out hkp (by have := Hor.out.2; rw [jn1_len]; omega)
                    have hlen2 : (L' ++ tl f r).length ≤ 20 + (j + 1) := by rw [List.length_append]; cases f <;> simp [tl] <;> omega
                    have hjn2 : (jn (L' ++ tl f r)).length ≤ 251 * (20 + (j + 1)) := by
                      have := Hor.out.2
                      cases f <;> simp [tl, jn_snoc, jn1_len] <;> omega
                    have hok2 : ∀ x ∈ L' ++ tl f r, okr x := by
                      intro x hx
                      rcases List.mem_append.1 hx with h | h
                      · exact hokL x h
                      · cases f <;> simp [tl] at h
                        subst h
                        exact Hor.out
                    have hT3 := hkp.1
                    have s13 := s12.eq (Q := pts gl (.cells #[pp p0, pp p1, pp p2] 43 (0, 0)) * (Z * (row 9 1 v11 L'.length (sv L') * (tps (some ⟨fb, 0, none⟩) [p0, p1, p2] Ts' * fz (.pointer (some ⟨fb, 0, none⟩)) (some (Fu.new 0)))))) (by ac_rfl)
                    have c0 := s13.cell 0
                    have c1 := s13.cell 1
                    have c2 := s13.cell 2
                    simp at c0 c1 c2
                    obtain ⟨a11, c11, rfl, -⟩ := (s12.eq (Q := row 9 1 v11 L'.length (sv L') * (Z * (tps (some ⟨fb, 0, none⟩) [p0, p1, p2] Ts' * (fz (.pointer (some ⟨fb, 0, none⟩)) (some (Fu.new 0)) * pts gl (.cells #[pp p0, pp p1, pp p2] 43 (0, 0)))))) (by ac_rfl)).rowSlice
                    have S12 := Lib.hid s12
                    have Hf := Lib.hid hf
                    have Hkp2 := Lib.hid hkp2
                    have Hop := Lib.hid hop
                    have Hok2 := Lib.hid hok2
                    have Hlen2 := Lib.hid hlen2
                    have Hjn2 := Lib.hid hjn2
                    have Hj0 := Lib.hid hj0
                    clear hf hkp2 hop hok2 hlen2 hjn2 hj0
                    clear s12 s13 hokL hkp
                    go_wp2_with fail
                    clear c0 c1 c2
                    refine (open_calls (some (Fu.new 0)) Ts' p0 p1 p2 (some ⟨fb, 0, none⟩) hT3 wr (R := row 9 1 (.slice a11 L'.length c11) L'.length (sv L') * (pts gl (.cells #[pp p0, pp p1, pp p2] 43 (0, 0)) * Z)) (S12.out.eq (by ac_rfl))).mono ?_
                    intro e w13 h
                    obtain ⟨X, b5, v5, vs5, rfl, hbr, s14⟩ := Hop.out _ _ h
                    have hL2 : (L' ++ tl f r).length ≤ 1000000 := by have := Hlen2.out; omega
                    generalize hLs : L' ++ tl f r = Ls at *
                    obtain ⟨A5, c5, rfl, h51, h52, h53, h54⟩ := hbr.val
                    have S14 := Lib.hid s14
                    have Hbr := Lib.hid hbr
                    have H53 := Lib.hid h53
                    have H54 := Lib.hid h54
                    have HLs := Lib.hid hLs
                    clear hbr h53 h54 hLs
                    clear s14 S12 h
                    go_wp2_with fail
                    obtain ⟨R14, hR14⟩ : ∃ ZZ, ZZ = X * (trx b5 (some ⟨fb, 0, none⟩) [p0, p1, p2] Ls.length Ts2 (some (Fu.new 0)) * (row 9 1 (.slice a11 L'.length c11) L'.length (sv L') * (pts gl (.cells #[pp p0, pp p1, pp p2] 43 (0, 0)) * Z))) := ⟨_, rfl⟩
                    have hrd : ∀ w' H, St W.heap.size W w' (H * R14) → BSS w' (.slice A5 Ls.length c5) Ls := fun w' H s => by
                      rw [hR14] at s
                      exact Hbr.out.bss (H := H * (trx b5 (some ⟨fb, 0, none⟩) [p0, p1, p2] Ls.length Ts2 (some (Fu.new 0)) * (row 9 1 (.slice a11 L'.length c11) L'.length (sv L') * (pts gl (.cells #[pp p0, pp p1, pp p2] 43 (0, 0)) * Z)))) (s.eq (by ac_rfl))
                    have s14 : St W.heap.size W w13 R14 := by rw [hR14]; exact S14.out
                    refine (strings_calls (.slice A5 Ls.length c5) Ls w13 hrd hL2 s14).mono ?_
                    clear hrd s14
                    rintro e w14 ⟨v7, rfl, s15⟩
                    obtain ⟨a7, c7, rfl, -⟩ := s15.rowSlice
                    have sl7 := St.sl _ s15
                    rw [hR14] at s15
                    have s16 := s15.eq (Q := row 9 1 (.slice a11 L'.length c11) L'.length (sv L') * (row 9 1 (.slice a7 Ls.length c7) Ls.length (sv Ls) * (X * (trx b5 (some ⟨fb, 0, none⟩) [p0, p1, p2] Ls.length Ts2 (some (Fu.new 0)) * (pts gl (.cells #[pp p0, pp p1, pp p2] 43 (0, 0)) * Z))))) (by ac_rfl)
                    have sl11 := St.sl _ s16
                    have qs := same_calls (.slice a7 Ls.length c7) (.slice a11 L'.length c11) Ls L' w14 sl7 sl11
                    have S16 := Lib.hid s16
                    clear s15 s16 sl7 sl11 S14 hR14
                    cases f with
                    | false =>
                      have e1 : Ls = L' := by rw [← HLs.out]; simp [tl]
                      rw [decide_eq_true e1] at qs
                      have Qs := Lib.hid qs
                      have E1 := Lib.hid e1
                      clear e1
                      clear qs
                      go_wp2_with fail
                      refine Qs.out.mono ?_
                      rintro e w15 ⟨rfl, had⟩
                      have S17 := Lib.hid (S16.out.keep had)
                      clear had S16 Qs
                      have hZ : row 9 1 (.slice a11 L'.length c11) L'.length (sv L') * (row 9 1 (.slice a7 Ls.length c7) Ls.length (sv Ls) * (X * (trx b5 (some ⟨fb, 0, none⟩) [p0, p1, p2] Ls.length Ts2 (some (Fu.new 0)) * (pts gl (.cells #[pp p0, pp p1, pp p2] 43 (0, 0)) * Z)))) =
                          (row 9 1 (.slice a11 L'.length c11) L'.length (sv L') * (X * (tro b5 p0 p1 p2 Ls.length * Z))) * (row 9 1 (.slice a7 Ls.length c7) Ls.length (sv Ls) * (tps (some ⟨fb, 0, none⟩) [p0, p1, p2] Ts2 * (fz (.pointer (some ⟨fb, 0, none⟩)) (some (Fu.new 0)) * pts gl (.cells #[pp p0, pp p1, pp p2] 43 (0, 0))))) := by
                        rw [trx_eq]; ac_rfl
                      have hZ2 : row 9 1 (.slice a11 L'.length c11) L'.length (sv L') * (row 9 1 (.slice a7 Ls.length c7) Ls.length (sv Ls) * (X * (trx b5 (some ⟨fb, 0, none⟩) [p0, p1, p2] Ls.length Ts2 (some (Fu.new 0)) * (pts gl (.cells #[pp p0, pp p1, pp p2] 43 (0, 0)) * Z)))) =
                          (row 9 1 (.slice a7 Ls.length c7) Ls.length (sv Ls) * (X * (tro b5 p0 p1 p2 Ls.length * Z))) * (row 9 1 (.slice a11 L'.length c11) L'.length (sv L') * (tps (some ⟨fb, 0, none⟩) [p0, p1, p2] Ts2 * (fz (.pointer (some ⟨fb, 0, none⟩)) (some (Fu.new 0)) * pts gl (.cells #[pp p0, pp p1, pp p2] 43 (0, 0))))) := by
                        rw [trx_eq]; ac_rfl
                      have S18 := Lib.hid (S17.out.eq hZ)
                      have S19 := Lib.hid (S17.out.eq hZ2)
                      clear hZ hZ2 S17
                      by_cases hj1 : j = 0
                      · subst hj1
                        go_wp2_with fail
                        go_roundw
                        case rel => exact ⟨1, Ls, [], Ts2, _, _, by omega, rfl, rfl, rfl, fun _ => rfl, Hok2.out, by have := Hjn2.out; omega, by have := Hlen2.out; omega, Hkp2.out, S18.out⟩
                        case measure => simp [intOf]
                      · have t5 : ((j : Int) == 0) = false := by rw [beq_eq_false_iff_ne]; omega
                        have H51 := Lib.hid (Hj0.out hj1)
                        have hj11 : j = 1 := by omega
                        subst hj11
                        go_wp2_with fail
                        go_roundw
                        case rel =>
                          have e51 := H51.out
                          exact ⟨2, L', nx', Ts2, _, _, by omega, rfl, rfl, rfl, fun _ => e51, by have := Hok2.out; rw [E1.out] at this; exact this, by have := Hjn2.out; rw [E1.out] at this; omega, by have := Hlen2.out; rw [E1.out] at this; omega, by have := Hkp2.out; rw [E1.out] at this; rw [e51]; exact this, S19.out⟩
                        case measure => simp [intOf]
                    | true =>
                      have e1 : Ls ≠ L' := by rw [← HLs.out]; simp [tl]
                      have e2 : nx' = r := by rcases Hf.out with h | h; · cases h
                                              · exact h
                      have e3 : j = 0 := by
                        by_cases h : j = 0
                        · exact h
                        · have := Hj0.out h
                          rw [e2] at this
                          exact absurd Hor.out.1 (by rw [this]; simp)
                      subst e3
                      subst e2
                      have e5 : Ls = L' ++ [nx'] := HLs.out.symm
                      rw [decide_eq_false e1] at qs
                      have Qs := Lib.hid qs
                      have E5 := Lib.hid e5
                      clear e5
                      clear qs e1
                      go_wp2_with fail
                      refine Qs.out.mono ?_
                      rintro e w15 ⟨rfl, had⟩
                      have S17 := Lib.hid (S16.out.keep had)
                      clear had S16 Qs
                      have s18 := (S17.out.alloc (.cells #[] 9)).rowMk (e := 9) (size := 1) (n := 0) (cap := 0) (by omega) (by unfold maxLen; omega) (by simp) rfl
                      have S18 := Lib.hid s18
                      clear s18
                      have hrd2 : ∀ w H, St W.heap.size W w (H * (row 9 1 (.slice a11 L'.length c11) L'.length (sv L') * (row 9 1 (.slice a7 Ls.length c7) Ls.length (sv Ls) * (X * (trx b5 (some ⟨fb, 0, none⟩) [p0, p1, p2] Ls.length Ts2 (some (Fu.new 0)) * (pts gl (.cells #[pp p0, pp p1, pp p2] 43 (0, 0)) * Z)))))) → Rd w a11 (sv L') := fun w H s =>
                        (s.eq (sep_left_comm _ _ _)).rowRd
                      have Hrd2 := Lib.hid hrd2
                      clear hrd2
                      have hne : ¬ nx' = [] := by intro e; exact absurd Hor.out.1 (by rw [e]; simp)
                      have hne2 : nx'.isEmpty = false := by simpa using hne
                      have HLX := Lib.hid (show L'.length ≤ 20 by omega)
                      have hov : ∀ u ∈ sv L', u.oneCell' = true := by intro u hu; simp [sv] at hu; obtain ⟨_, _, rfl⟩ := hu; rfl
                      have Hov := Lib.hid hov
                      clear hov
                      have hnn := (S17.out.rowSlice)
                      obtain ⟨_, _, hcq, -, -, hnn, -⟩ := hnn
                      cases hcq
                      have Hnn := Lib.hid hnn
                      clear hnn
                      go_wp2_with (at_builtin; (first
                        | (refine wpl_append_g (by simp [Region.wanted, yielded, hne]) _ _ rfl tSS S18.out a11 L'.length c11 (sv L') rfl rfl (Hrd2.out _ _ S18.out) Hnn.out (by simp [sv]) Hov.out (by have := HLX.out; unfold maxLen; omega) (by have := HLX.out; omega) ?_; intro v18 w18 s18; clear S18; have S20 := Lib.hid (show St W.heap.size W (w18.alloc (.cells #[str nx'] 9)) (row 9 1 v18 (0 + L'.length) (List.take (0 * 1) [] ++ sv L') * (pts w18.heap.size (.cells #[str nx'] 9) * (row 9 1 (.slice a11 L'.length c11) L'.length (sv L') * (row 9 1 (.slice a7 Ls.length c7) Ls.length (sv Ls) * (X * (trx b5 (some ⟨fb, 0, none⟩) [p0, p1, p2] Ls.length Ts2 (some (Fu.new 0)) * (pts gl (.cells #[pp p0, pp p1, pp p2] 43 (0, 0)) * Z))))))) from (s18.alloc (.cells #[str nx'] 9)).eq (sep_left_comm _ _ _)); have hrd3 := Lib.hid (Rd.new w18 #[str nx'] 9); clear s18)
                        | (refine wpl_append_g (by simp [Region.wanted, yielded, hne]) _ _ rfl tSS S20.out (some ⟨w18.heap.size, 0, none⟩) 1 1 [str nx'] rfl rfl hrd3.out (fun e => by cases e) (by simp) (by simp [Value.oneCell']) (by have := HLX.out; unfold maxLen; omega) (by have := HLX.out; omega) ?_; intro v19 w19 s19; have S21 := Lib.hid s19; clear s19 S20 hrd3)))
                      have e6 : sv Ls = List.take (0 * 1) [] ++ sv L' ++ [str nx'] := by rw [E5.out]; simp [sv]
                      have e7 : 0 + L'.length + 1 = Ls.length := by rw [E5.out]; simp
                      have s21 := S21.out
                      rw [← e6, e7] at s21
                      have hsl := St.sl _ s21
                      have hsl2 := St.sl _ (s21.eq (Q := row 9 1 (.slice a7 Ls.length c7) Ls.length (sv Ls) * (row 9 1 v19 Ls.length (sv Ls) * (pts w18.heap.size (.cells #[str nx'] 9) * (row 9 1 (.slice a11 L'.length c11) L'.length (sv L') * (X * (trx b5 (some ⟨fb, 0, none⟩) [p0, p1, p2] Ls.length Ts2 (some (Fu.new 0)) * (pts gl (.cells #[pp p0, pp p1, pp p2] 43 (0, 0)) * Z))))))) (by ac_rfl))
                      have qs := same_calls (.slice a7 Ls.length c7) v19 Ls Ls w19 hsl2 hsl
                      rw [decide_eq_true rfl] at qs
                      refine qs.mono ?_
                      rintro e w20 ⟨rfl, had⟩
                      have hZ : row 9 1 v19 Ls.length (sv Ls) * (pts w18.heap.size (.cells #[str nx'] 9) * (row 9 1 (.slice a11 L'.length c11) L'.length (sv L') * (row 9 1 (.slice a7 Ls.length c7) Ls.length (sv Ls) * (X * (trx b5 (some ⟨fb, 0, none⟩) [p0, p1, p2] Ls.length Ts2 (some (Fu.new 0)) * (pts gl (.cells #[pp p0, pp p1, pp p2] 43 (0, 0)) * Z)))))) =
                          (row 9 1 v19 Ls.length (sv Ls) * (pts w18.heap.size (.cells #[str nx'] 9) * (row 9 1 (.slice a11 L'.length c11) L'.length (sv L') * (X * (tro b5 p0 p1 p2 Ls.length * Z))))) * (row 9 1 (.slice a7 Ls.length c7) Ls.length (sv Ls) * (tps (some ⟨fb, 0, none⟩) [p0, p1, p2] Ts2 * (fz (.pointer (some ⟨fb, 0, none⟩)) (some (Fu.new 0)) * pts gl (.cells #[pp p0, pp p1, pp p2] 43 (0, 0))))) := by
                        rw [trx_eq]; ac_rfl
                      have S22 := Lib.hid ((s21.keep had).eq hZ)
                      clear s21 S21 S17 hsl hsl2 qs e6 e7 hZ had hne
                      go_wp2_with fail
                      go_roundw
                      case rel => exact ⟨1, Ls, [], Ts2, _, _, by omega, rfl, rfl, rfl, fun _ => rfl, Hok2.out, by have := Hjn2.out; omega, by have := Hlen2.out; omega, Hkp2.out, S22.out⟩
                      case measure => simp [intOf]
                  · obtain rfl : j = 2 := by omega
                    have S12 := Lib.hid s12
                    clear s12 hkp hokL
                    go_wp2_with fail
                    refine (awake_calls _).mono ?_
                    rintro e w13 ⟨rfl, h2⟩
                    have HA := Lib.hid (S12.out.keep h2)
                    clear h2 S12
                    go_wp2_with fail
                    go_ret
                    exact ⟨rfl, HA.out.below⟩
      · have h1 : ((r.length : Int) == 0) = true ∧ ¬ (250 : Int) < (r.length : Int) ∨ (250 : Int) < (r.length : Int) := by
          by_cases h : r.length = 0
          · exact .inl ⟨by rw [beq_iff_eq]; omega, by omega⟩
          · exact .inr (by omega)
        have S5 := Lib.hid s4
        clear s4 hr3
        rcases h1 with ⟨h1, h2⟩ | h1
        all_goals
          go_wp2_with fail
          refine (awake_calls _).mono ?_
          rintro e w2 ⟨rfl, h2⟩
          have HA := Lib.hid (S5.out.keep h2)
          clear h2
          go_wp2_with fail
          go_ret
          exact ⟨rfl, HA.out.below⟩
    · have h5 : ¬ (k : Int) < (rs.length : Int) ∨ (k : Int) < (rs.length : Int) ∧ ¬ (k : Int) < 20 := by omega
      have hlL : (rs.take k).length = k := by rw [List.length_take]; omega
      have hjl := jn_len_max _ hok
      rw [hlL] at hjl
      generalize rs.take k = L at *
      obtain ⟨av, cv, rfl, -⟩ := s4.rowSlice
      obtain ⟨r, hr⟩ : ∃ r : List UInt8, r = [0] := ⟨_, rfl⟩
      have hor : okr r := by rw [hr]; exact ⟨by simp, by simp⟩
      obtain ⟨nx, hnx⟩ : ∃ nx : List UInt8, nx = [] := ⟨_, rfl⟩
      obtain ⟨g0, hg0⟩ : ∃ g : Bool, g = false := ⟨_, rfl⟩
      obtain ⟨g1, hg1⟩ : ∃ g : Bool, g = false := ⟨_, rfl⟩
      obtain ⟨g2, hg2⟩ : ∃ g : Bool, g = false := ⟨_, rfl⟩
      obtain ⟨F, hF⟩ : ∃ F : Fu, F = ⟨l, true⟩ := ⟨_, rfl⟩
      have S8 := Lib.hid (show St W.heap.size W wr (trx b (some ⟨fb, 0, none⟩) [p0, p1, p2] k [lt (jn L) (jn1 r) g0, lt (jn L) (jn1 r) g1, lt (jn L) (jn1 r) g2] (some F) * (row 9 1 (.slice av k cv) k (sv L) * Y0)) by rw [hF, hg0, hg1, hg2, ← fam_lt L r]; exact s4.eq (by ac_rfl))
      have hn : nx = r ∨ nx = [] ∧ g0 = false ∧ g1 = false ∧ g2 = false := .inr ⟨hnx, hg0, hg1, hg2⟩
      have hs : Value.string ⟨#[]⟩ = str nx := by rw [hnx]
      rw [hs]
      have Hn := Lib.hid hn
      have Hor := Lib.hid hor
      have Hok := Lib.hid hok
      have HlL := Lib.hid hlL
      clear hn hor hok hlL
      clear s4 hr hF hg0 hg1 hg2 hs
      clear hlt hnx
      rcases h5 with h5 | ⟨h5, h6⟩
      · skip
        go_wp2_with fail
        refine (tapes_calls b p0 p1 p2 k _ (R := tps (some ⟨fb, 0, none⟩) [p0, p1, p2] [lt (jn L) (jn1 r) g0, lt (jn L) (jn1 r) g1, lt (jn L) (jn1 r) g2] * (fz (.pointer (some ⟨fb, 0, none⟩)) (some F) * (row 9 1 (.slice av k cv) k (sv L) * Y0))) (S8.out.eq (by rw [trx_eq]; ac_rfl))).mono ?_
        rintro e w9 ⟨rfl, s9⟩
        have s9a := s9.alloc (.cells #[pp p0, pp p1, pp p2] 43)
        have S9 := Lib.hid s9a
        clear s9 s9a S8
        go_wp2_with fail
        generalize w9.alloc (.cells #[.pointer (some ⟨p0, 0, none⟩), .pointer (some ⟨p1, 0, none⟩), .pointer (some ⟨p2, 0, none⟩)] 43) = w10 at *
        generalize w9.heap.size = gl at *
        go_loopw [16] (fun i wr => ∃ j : Nat, j ≤ 3 ∧ i = .int .i64 j ∧ St W.heap.size W wr (CR W.heap.size b (some ⟨fb, 0, none⟩) p0 p1 p2 gl n0 n1 n2 (lt (jn L) (jn1 r) g0) (lt (jn L) (jn1 r) g1) (lt (jn L) (jn1 r) g2) F k (.slice av k cv) L j)) (fun i _ => 3 - (intOf i).toNat)
        case atStart => exact ⟨0, Nat.zero_le _, rfl, S9.out.eq (by rw [← HY.out]; unfold CR; show _ = tps _ _ [lt (jn L) (jn1 r) g0, lt (jn L) (jn1 r) g1, lt (jn L) (jn1 r) g2] * _; ac_rfl)⟩
        case round =>
          obtain ⟨j, hj, rfl, s10⟩ := hrel
          clear S9
          by_cases hjt : j < 3
          · have hjI : (j : Int) < 3 := by omega
            obtain ⟨pj, hpj⟩ : ∃ z, [p0, p1, p2].getD j 0 = z := ⟨_, rfl⟩
            obtain ⟨nj, hnj⟩ : ∃ z, [n0, n1, n2].getD j 0 = z := ⟨_, rfl⟩
            have hg1 := fun (m : Nat) (w : World) (s : St W.heap.size W w (CR W.heap.size b (some ⟨fb, 0, none⟩) p0 p1 p2 gl n0 n1 n2 (lt (jn L) (jn1 r) g0) (lt (jn L) (jn1 r) g1) (lt (jn L) (jn1 r) g2) F k (.slice av k cv) L m)) => (cr_cell s j hjt).1
            have hg2 := fun (m : Nat) (w : World) (s : St W.heap.size W w (CR W.heap.size b (some ⟨fb, 0, none⟩) p0 p1 p2 gl n0 n1 n2 (lt (jn L) (jn1 r) g0) (lt (jn L) (jn1 r) g1) (lt (jn L) (jn1 r) g2) F k (.slice av k cv) L m)) => (cr_cell s j hjt).2
            have hcc := fun (w : World) (s : St W.heap.size W w (CR W.heap.size b (some ⟨fb, 0, none⟩) p0 p1 p2 gl n0 n1 n2 (lt (jn L) (jn1 r) g0) (lt (jn L) (jn1 r) g1) (lt (jn L) (jn1 r) g2) F k (.slice av k cv) L j)) => cr_crash s hm0 hm1 hm2 hjt
            rw [hpj] at hg1 hcc
            rw [hnj] at hg2 hcc
            have c1 := hg1 j wr s10
            have S10 := Lib.hid s10
            have Hg1 := Lib.hid hg1
            have Hg2 := Lib.hid hg2
            have Hcc := Lib.hid hcc
            clear hg1 hg2 hcc
            clear s10 hpj hnj
            go_wp2_with fail
            refine wp_region_rx (fun i w => St W.heap.size W w (CR W.heap.size b (some ⟨fb, 0, none⟩) p0 p1 p2 gl n0 n1 n2 (lt (jn L) (jn1 r) g0) (lt (jn L) (jn1 r) g1) (lt (jn L) (jn1 r) g2) F k (.slice av k cv) L (if i = 0 then j else j + 1))) [6] mixed (by kernel_rfl) (by kernel_rfl) S10.out.drew ?_
            refine RXl.exact (.int .i64 j) rfl rfl rfl rfl rfl (fun _ _ _ _ _ => rfl) ?_
            refine RXl.exact (.pointer (some ⟨gl, j, none⟩)) rfl rfl rfl rfl rfl (fun j τ w' hj hJ => by simp [rho, upd, Spec.val, execOp, go_sem, hjI]) ?_
            refine RXl.exact (pp pj) rfl rfl rfl rfl rfl (fun j τ w' hj hJ => by have c := Hg1.out _ _ hJ; simp [rho, upd, Spec.val, execOp, go_sem, c]) ?_
            refine RXl.exact (.int .i64 j) rfl rfl rfl rfl rfl (fun _ _ _ _ _ => rfl) ?_
            refine RXl.exact (.pointer (some ⟨W.heap.size, j, none⟩)) rfl rfl rfl rfl rfl (fun j τ w' hj hJ => by simp [rho, upd, Spec.val, execOp, go_sem, hjI]) ?_
            refine RXl.exact (.int .i64 nj) rfl rfl rfl rfl rfl (fun j τ w' hj hJ => by have c := Hg2.out _ _ hJ; simp [rho, upd, Spec.val, execOp, go_sem, c]) ?_
            refine RXl.callj 0 (.tuple #[]) _ [pp pj, .int .i64 nj] [.tmp 96, .tmp 99] _ rfl rfl rfl rfl rfl rfl (fun _ => rfl) (fun w' hJ => Hcc.out w' hJ) ?_
            refine RXl.nilx _ (Agr.upd _ _ (Agr.upd _ _ (Agr.upd _ _ (Agr.upd _ _ (Agr.upd _ _ (Agr.upd _ _ (Agr.upd _ _ (Agr.base _)))))))) fun w12 hJ => ?_
            obtain ⟨_, hJ⟩ := hJ
            simp only [Act.put, List.setIfInBounds_toArray, List.set_cons_succ, List.set_cons_zero]
            have S11 := Lib.hid (show St W.heap.size W w12 (CR W.heap.size b (some ⟨fb, 0, none⟩) p0 p1 p2 gl n0 n1 n2 (lt (jn L) (jn1 r) g0) (lt (jn L) (jn1 r) g1) (lt (jn L) (jn1 r) g2) F k (.slice av k cv) L (j + 1)) from hJ)
            clear hJ S10 c1
            go_wp2_with fail
            go_roundw
            case rel => exact ⟨j + 1, by omega, by go_num, S11.out⟩
            case measure => simp [intOf]; omega
          · obtain rfl : j = 3 := by omega
            have hkp := kp_crash L r g0 g1 g2 n0 n1 n2 nx Hn.out
            have hlv := crs_live L r g0 g1 g2 n0 n1 n2
            unfold CR at s10
            generalize crs (lt (jn L) (jn1 r) g0) (lt (jn L) (jn1 r) g1) (lt (jn L) (jn1 r) g2) n0 n1 n2 3 = Ts at *
            by_cases hq3 : q < 3
            · have t4 : (q : Int) < 3 := by omega
              have s11 := s10.eq (Q := pts gl (.cells #[pp p0, pp p1, pp p2] 43 (0, 0)) * (tps (some ⟨fb, 0, none⟩) [p0, p1, p2] Ts * (pts W.heap.size (.cells #[.int .i64 n0, .int .i64 n1, .int .i64 n2] 34 (0, 0)) * (tro b p0 p1 p2 k * (fz (.pointer (some ⟨fb, 0, none⟩)) (some F) * (row 9 1 (.slice av k cv) k (sv L) * emp)))))) (by ac_rfl)
              have c1 : wr.cell? ⟨gl, q, none⟩ = some (pp ([p0, p1, p2].getD q 0)) := by
                obtain rfl | rfl | rfl : q = 0 ∨ q = 1 ∨ q = 2 := by omega
                · exact s11.cell 0
                · exact s11.cell 1
                · exact s11.cell 2
              have qf := tfail_calls (some ⟨fb, 0, none⟩) [p0, p1, p2] Ts q (by simpa using hq3) (by rw [hkp.1]; exact hq3) wr s10
              have hkp := kp_fail hkp hlv q hq3
              generalize [p0, p1, p2].getD q 0 = pq at *
              generalize Ts.set q ⟨(Ts.getD q Tp.new).b, (Ts.getD q Tp.new).loose, true⟩ = Ts1 at *
              have Qf := Lib.hid qf
              have Hkp := Lib.hid hkp
              clear hkp
              clear s10 s11 qf hlv
              go_wp2_with fail
              refine Qf.out.mono ?_
              rintro e w10 ⟨rfl, s12⟩
              have S10 := Lib.hid (s12.eq (Q := fz (.pointer (some ⟨fb, 0, none⟩)) (some F) * (tro b p0 p1 p2 k * (tps (some ⟨fb, 0, none⟩) [p0, p1, p2] Ts1 * (pts gl (.cells #[pp p0, pp p1, pp p2] 43 (0, 0)) * (pts W.heap.size (.cells #[.int .i64 n0, .int .i64 n1, .int .i64 n2] 34 (0, 0)) * (row 9 1 (.slice av k cv) k (sv L) * emp)))))) (by ac_rfl))
              clear s12 Qf c1
              go_wp2_with fail
              refine (set_calls _ _ 0 _ (by omega) S10.out).mono ?_
              rintro e w11 ⟨rfl, s11⟩
              have S11 := Lib.hid s11
              clear s11 S10
              go_wp2_with fail
              go_loopw [11, 12, 17] (fun v11 v12 i wr => ∃ (j : Nat) (L' : List (List UInt8)) (nx' : List UInt8) (Ts' : List Tp) (Z : HP) (vz : Value), j ≤ 2 ∧ vz = v11 ∧ i = .int .i64 j ∧ v12 = str nx' ∧ (j ≠ 0 → nx' = []) ∧ (∀ x ∈ L', okr x) ∧ (jn L').length ≤ 251 * (20 + j) ∧ L'.length ≤ 20 + j ∧ Kp L' r nx' Ts' ∧
                St W.heap.size W wr (Z * (row 9 1 vz L'.length (sv L') * (tps (some ⟨fb, 0, none⟩) [p0, p1, p2] Ts' * (fz (.pointer (some ⟨fb, 0, none⟩)) (some (Fu.new 0)) * pts gl (.cells #[pp p0, pp p1, pp p2] 43 (0, 0))))))) (fun _ _ i _ => 2 - (intOf i).toNat)
              case atStart => exact ⟨0, L, nx, _, tro b p0 p1 p2 k * (pts W.heap.size (.cells #[.int .i64 n0, .int .i64 n1, .int .i64 n2] 34 (0, 0)) * emp), _, by omega, rfl, rfl, rfl, fun h => absurd rfl h, Hok.out, by omega, by rw [HlL.out]; omega, Hkp.out, by rw [HlL.out]; exact S11.out.eq (by ac_rfl)⟩
              case round =>
                obtain ⟨j, L', nx', Ts', Z, v11, hj, rfl, rfl, rfl, hj0, hokL, hjL, hlL', hkp, s12⟩ := hrel
                clear S11
                by_cases hjt : j < 2
                · have t3 : (j : Int) < 2 := by omega
                  obtain ⟨f, Ts2, hf, hkp2, hop⟩ := kp_open W.heap.size W p0 p1 p2 (some ⟨fb, 0, none⟩) (row 9 1 v11 L'.length (sv L') * (pts gl (.cells #[pp p0, pp p1, pp p2] 43 (0, 0)) * Z)) und_zero hokL Hor.out hkp (by have := Hor.out.2; rw [jn1_len]; omega)
                  have hlen2 : (L' ++ tl f r).length ≤ 20 + (j + 1) := by rw [List.length_append]; cases f <;> simp [tl] <;> omega
                  have hjn2 : (jn (L' ++ tl f r)).length ≤ 251 * (20 + (j + 1)) := by
                    have := Hor.out.2
                    cases f <;> simp [tl, jn_snoc, jn1_len] <;> omega
                  have hok2 : ∀ x ∈ L' ++ tl f r, okr x := by
                    intro x hx
                    rcases List.mem_append.1 hx with h | h
                    · exact hokL x h
                    · cases f <;> simp [tl] at h
                      subst h
                      exact Hor.out
                  have hT3 := hkp.1
                  have s13 := s12.eq (Q := pts gl (.cells #[pp p0, pp p1, pp p2] 43 (0, 0)) * (Z * (row 9 1 v11 L'.length (sv L') * (tps (some ⟨fb, 0, none⟩) [p0, p1, p2] Ts' * fz (.pointer (some ⟨fb, 0, none⟩)) (some (Fu.new 0)))))) (by ac_rfl)
                  have c0 := s13.cell 0
                  have c1 := s13.cell 1
                  have c2 := s13.cell 2
                  simp at c0 c1 c2
                  obtain ⟨a11, c11, rfl, -⟩ := (s12.eq (Q := row 9 1 v11 L'.length (sv L') * (Z * (tps (some ⟨fb, 0, none⟩) [p0, p1, p2] Ts' * (fz (.pointer (some ⟨fb, 0, none⟩)) (some (Fu.new 0)) * pts gl (.cells #[pp p0, pp p1, pp p2] 43 (0, 0)))))) (by ac_rfl)).rowSlice
                  have S12 := Lib.hid s12
                  have Hf := Lib.hid hf
                  have Hkp2 := Lib.hid hkp2
                  have Hop := Lib.hid hop
                  have Hok2 := Lib.hid hok2
                  have Hlen2 := Lib.hid hlen2
                  have Hjn2 := Lib.hid hjn2
                  have Hj0 := Lib.hid hj0
                  clear hf hkp2 hop hok2 hlen2 hjn2 hj0
                  clear s12 s13 hokL hkp
                  go_wp2_with fail
                  clear c0 c1 c2
                  refine (open_calls (some (Fu.new 0)) Ts' p0 p1 p2 (some ⟨fb, 0, none⟩) hT3 wr (R := row 9 1 (.slice a11 L'.length c11) L'.length (sv L') * (pts gl (.cells #[pp p0, pp p1, pp p2] 43 (0, 0)) * Z)) (S12.out.eq (by ac_rfl))).mono ?_
                  intro e w13 h
                  obtain ⟨X, b5, v5, vs5, rfl, hbr, s14⟩ := Hop.out _ _ h
                  have hL2 : (L' ++ tl f r).length ≤ 1000000 := by have := Hlen2.out; omega
                  generalize hLs : L' ++ tl f r = Ls at *
                  obtain ⟨A5, c5, rfl, h51, h52, h53, h54⟩ := hbr.val
                  have S14 := Lib.hid s14
                  have Hbr := Lib.hid hbr
                  have H53 := Lib.hid h53
                  have H54 := Lib.hid h54
                  have HLs := Lib.hid hLs
                  clear hbr h53 h54 hLs
                  clear s14 S12 h
                  go_wp2_with fail
                  obtain ⟨R14, hR14⟩ : ∃ ZZ, ZZ = X * (trx b5 (some ⟨fb, 0, none⟩) [p0, p1, p2] Ls.length Ts2 (some (Fu.new 0)) * (row 9 1 (.slice a11 L'.length c11) L'.length (sv L') * (pts gl (.cells #[pp p0, pp p1, pp p2] 43 (0, 0)) * Z))) := ⟨_, rfl⟩
                  have hrd : ∀ w' H, St W.heap.size W w' (H * R14) → BSS w' (.slice A5 Ls.length c5) Ls := fun w' H s => by
                    rw [hR14] at s
                    exact Hbr.out.bss (H := H * (trx b5 (some ⟨fb, 0, none⟩) [p0, p1, p2] Ls.length Ts2 (some (Fu.new 0)) * (row 9 1 (.slice a11 L'.length c11) L'.length (sv L') * (pts gl (.cells #[pp p0, pp p1, pp p2] 43 (0, 0)) * Z)))) (s.eq (by ac_rfl))
                  have s14 : St W.heap.size W w13 R14 := by rw [hR14]; exact S14.out
                  refine (strings_calls (.slice A5 Ls.length c5) Ls w13 hrd hL2 s14).mono ?_
                  clear hrd s14
                  rintro e w14 ⟨v7, rfl, s15⟩
                  obtain ⟨a7, c7, rfl, -⟩ := s15.rowSlice
                  have sl7 := St.sl _ s15
                  rw [hR14] at s15
                  have s16 := s15.eq (Q := row 9 1 (.slice a11 L'.length c11) L'.length (sv L') * (row 9 1 (.slice a7 Ls.length c7) Ls.length (sv Ls) * (X * (trx b5 (some ⟨fb, 0, none⟩) [p0, p1, p2] Ls.length Ts2 (some (Fu.new 0)) * (pts gl (.cells #[pp p0, pp p1, pp p2] 43 (0, 0)) * Z))))) (by ac_rfl)
                  have sl11 := St.sl _ s16
                  have qs := same_calls (.slice a7 Ls.length c7) (.slice a11 L'.length c11) Ls L' w14 sl7 sl11
                  have S16 := Lib.hid s16
                  clear s15 s16 sl7 sl11 S14 hR14
                  cases f with
                  | false =>
                    have e1 : Ls = L' := by rw [← HLs.out]; simp [tl]
                    rw [decide_eq_true e1] at qs
                    have Qs := Lib.hid qs
                    have E1 := Lib.hid e1
                    clear e1
                    clear qs
                    go_wp2_with fail
                    refine Qs.out.mono ?_
                    rintro e w15 ⟨rfl, had⟩
                    have S17 := Lib.hid (S16.out.keep had)
                    clear had S16 Qs
                    have hZ : row 9 1 (.slice a11 L'.length c11) L'.length (sv L') * (row 9 1 (.slice a7 Ls.length c7) Ls.length (sv Ls) * (X * (trx b5 (some ⟨fb, 0, none⟩) [p0, p1, p2] Ls.length Ts2 (some (Fu.new 0)) * (pts gl (.cells #[pp p0, pp p1, pp p2] 43 (0, 0)) * Z)))) =
                        (row 9 1 (.slice a11 L'.length c11) L'.length (sv L') * (X * (tro b5 p0 p1 p2 Ls.length * Z))) * (row 9 1 (.slice a7 Ls.length c7) Ls.length (sv Ls) * (tps (some ⟨fb, 0, none⟩) [p0, p1, p2] Ts2 * (fz (.pointer (some ⟨fb, 0, none⟩)) (some (Fu.new 0)) * pts gl (.cells #[pp p0, pp p1, pp p2] 43 (0, 0))))) := by
                      rw [trx_eq]; ac_rfl
                    have hZ2 : row 9 1 (.slice a11 L'.length c11) L'.length (sv L') * (row 9 1 (.slice a7 Ls.length c7) Ls.length (sv Ls) * (X * (trx b5 (some ⟨fb, 0, none⟩) [p0, p1, p2] Ls.length Ts2 (some (Fu.new 0)) * (pts gl (.cells #[pp p0, pp p1, pp p2] 43 (0, 0)) * Z)))) =
                        (row 9 1 (.slice a7 Ls.length c7) Ls.length (sv Ls) * (X * (tro b5 p0 p1 p2 Ls.length * Z))) * (row 9 1 (.slice a11 L'.length c11) L'.length (sv L') * (tps (some ⟨fb, 0, none⟩) [p0, p1, p2] Ts2 * (fz (.pointer (some ⟨fb, 0, none⟩)) (some (Fu.new 0)) * pts gl (.cells #[pp p0, pp p1, pp p2] 43 (0, 0))))) := by
                      rw [trx_eq]; ac_rfl
                    have S18 := Lib.hid (S17.out.eq hZ)
                    have S19 := Lib.hid (S17.out.eq hZ2)
                    clear hZ hZ2 S17
                    by_cases hj1 : j = 0
                    · subst hj1
                      go_wp2_with fail
                      go_roundw
                      case rel => exact ⟨1, Ls, [], Ts2, _, _, by omega, rfl, rfl, rfl, fun _ => rfl, Hok2.out, by have := Hjn2.out; omega, by have := Hlen2.out; omega, Hkp2.out, S18.out⟩
                      case measure => simp [intOf]
                    · have t5 : ((j : Int) == 0) = false := by rw [beq_eq_false_iff_ne]; omega
                      have H51 := Lib.hid (Hj0.out hj1)
                      have hj11 : j = 1 := by omega
                      subst hj11
                      go_wp2_with fail
                      go_roundw
                      case rel =>
                        have e51 := H51.out
                        exact ⟨2, L', nx', Ts2, _, _, by omega, rfl, rfl, rfl, fun _ => e51, by have := Hok2.out; rw [E1.out] at this; exact this, by have := Hjn2.out; rw [E1.out] at this; omega, by have := Hlen2.out; rw [E1.out] at this; omega, by have := Hkp2.out; rw [E1.out] at this; rw [e51]; exact this, S19.out⟩
                      case measure => simp [intOf]
                  | true =>
                    have e1 : Ls ≠ L' := by rw [← HLs.out]; simp [tl]
                    have e2 : nx' = r := by rcases Hf.out with h | h; · cases h
                                            · exact h
                    have e3 : j = 0 := by
                      by_cases h : j = 0
                      · exact h
                      · have := Hj0.out h
                        rw [e2] at this
                        exact absurd Hor.out.1 (by rw [this]; simp)
                    subst e3
                    subst e2
                    have e5 : Ls = L' ++ [nx'] := HLs.out.symm
                    rw [decide_eq_false e1] at qs
                    have Qs := Lib.hid qs
                    have E5 := Lib.hid e5
                    clear e5
                    clear qs e1
                    go_wp2_with fail
                    refine Qs.out.mono ?_
                    rintro e w15 ⟨rfl, had⟩
                    have S17 := Lib.hid (S16.out.keep had)
                    clear had S16 Qs
                    have s18 := (S17.out.alloc (.cells #[] 9)).rowMk (e := 9) (size := 1) (n := 0) (cap := 0) (by omega) (by unfold maxLen; omega) (by simp) rfl
                    have S18 := Lib.hid s18
                    clear s18
                    have hrd2 : ∀ w H, St W.heap.size W w (H * (row 9 1 (.slice a11 L'.length c11) L'.length (sv L') * (row 9 1 (.slice a7 Ls.length c7) Ls.length (sv Ls) * (X * (trx b5 (some ⟨fb, 0, none⟩) [p0, p1, p2] Ls.length Ts2 (some (Fu.new 0)) * (pts gl (.cells #[pp p0, pp p1, pp p2] 43 (0, 0)) * Z)))))) → Rd w a11 (sv L') := fun w H s =>
                      (s.eq (sep_left_comm _ _ _)).rowRd
                    have Hrd2 := Lib.hid hrd2
                    clear hrd2
                    have hne : ¬ nx' = [] := by intro e; exact absurd Hor.out.1 (by rw [e]; simp)
                    have hne2 : nx'.isEmpty = false := by simpa using hne
                    have HLX := Lib.hid (show L'.length ≤ 20 by omega)
                    have hov : ∀ u ∈ sv L', u.oneCell' = true := by intro u hu; simp [sv] at hu; obtain ⟨_, _, rfl⟩ := hu; rfl
                    have Hov := Lib.hid hov
                    clear hov
                    have hnn := (S17.out.rowSlice)
                    obtain ⟨_, _, hcq, -, -, hnn, -⟩ := hnn
                    cases hcq
                    have Hnn := Lib.hid hnn
                    clear hnn
                    go_wp2_with (at_builtin; (first
                      | (refine wpl_append_g (by simp [Region.wanted, yielded, hne]) _ _ rfl tSS S18.out a11 L'.length c11 (sv L') rfl rfl (Hrd2.out _ _ S18.out) Hnn.out (by simp [sv]) Hov.out (by have := HLX.out; unfold maxLen; omega) (by have := HLX.out; omega) ?_; intro v18 w18 s18; clear S18; have S20 := Lib.hid (show St W.heap.size W (w18.alloc (.cells #[str nx'] 9)) (row 9 1 v18 (0 + L'.length) (List.take (0 * 1) [] ++ sv L') * (pts w18.heap.size (.cells #[str nx'] 9) * (row 9 1 (.slice a11 L'.length c11) L'.length (sv L') * (row 9 1 (.slice a7 Ls.length c7) Ls.length (sv Ls) * (X * (trx b5 (some ⟨fb, 0, none⟩) [p0, p1, p2] Ls.length Ts2 (some (Fu.new 0)) * (pts gl (.cells #[pp p0, pp p1, pp p2] 43 (0, 0)) * Z))))))) from (s18.alloc (.cells #[str nx'] 9)).eq (sep_left_comm _ _ _)); have hrd3 := Lib.hid (Rd.new w18 #[str nx'] 9); clear s18)
                      | (refine wpl_append_g (by simp [Region.wanted, yielded, hne]) _ _ rfl tSS S20.out (some ⟨w18.heap.size, 0, none⟩) 1 1 [str nx'] rfl rfl hrd3.out (fun e => by cases e) (by simp) (by simp [Value.oneCell']) (by have := HLX.out; unfold maxLen; omega) (by have := HLX.out; omega) ?_; intro v19 w19 s19; have S21 := Lib.hid s19; clear s19 S20 hrd3)))
                    have e6 : sv Ls = List.take (0 * 1) [] ++ sv L' ++ [str nx'] := by rw [E5.out]; simp [sv]
                    have e7 : 0 + L'.length + 1 = Ls.length := by rw [E5.out]; simp
                    have s21 := S21.out
                    rw [← e6, e7] at s21
                    have hsl := St.sl _ s21
                    have hsl2 := St.sl _ (s21.eq (Q := row 9 1 (.slice a7 Ls.length c7) Ls.length (sv Ls) * (row 9 1 v19 Ls.length (sv Ls) * (pts w18.heap.size (.cells #[str nx'] 9) * (row 9 1 (.slice a11 L'.length c11) L'.length (sv L') * (X * (trx b5 (some ⟨fb, 0, none⟩) [p0, p1, p2] Ls.length Ts2 (some (Fu.new 0)) * (pts gl (.cells #[pp p0, pp p1, pp p2] 43 (0, 0)) * Z))))))) (by ac_rfl))
                    have qs := same_calls (.slice a7 Ls.length c7) v19 Ls Ls w19 hsl2 hsl
                    rw [decide_eq_true rfl] at qs
                    refine qs.mono ?_
                    rintro e w20 ⟨rfl, had⟩
                    have hZ : row 9 1 v19 Ls.length (sv Ls) * (pts w18.heap.size (.cells #[str nx'] 9) * (row 9 1 (.slice a11 L'.length c11) L'.length (sv L') * (row 9 1 (.slice a7 Ls.length c7) Ls.length (sv Ls) * (X * (trx b5 (some ⟨fb, 0, none⟩) [p0, p1, p2] Ls.length Ts2 (some (Fu.new 0)) * (pts gl (.cells #[pp p0, pp p1, pp p2] 43 (0, 0)) * Z)))))) =
                        (row 9 1 v19 Ls.length (sv Ls) * (pts w18.heap.size (.cells #[str nx'] 9) * (row 9 1 (.slice a11 L'.length c11) L'.length (sv L') * (X * (tro b5 p0 p1 p2 Ls.length * Z))))) * (row 9 1 (.slice a7 Ls.length c7) Ls.length (sv Ls) * (tps (some ⟨fb, 0, none⟩) [p0, p1, p2] Ts2 * (fz (.pointer (some ⟨fb, 0, none⟩)) (some (Fu.new 0)) * pts gl (.cells #[pp p0, pp p1, pp p2] 43 (0, 0))))) := by
                      rw [trx_eq]; ac_rfl
                    have S22 := Lib.hid ((s21.keep had).eq hZ)
                    clear s21 S21 S17 hsl hsl2 qs e6 e7 hZ had hne
                    go_wp2_with fail
                    go_roundw
                    case rel => exact ⟨1, Ls, [], Ts2, _, _, by omega, rfl, rfl, rfl, fun _ => rfl, Hok2.out, by have := Hjn2.out; omega, by have := Hlen2.out; omega, Hkp2.out, S22.out⟩
                    case measure => simp [intOf]
                · obtain rfl : j = 2 := by omega
                  have S12 := Lib.hid s12
                  clear s12 hkp hokL
                  go_wp2_with fail
                  refine (awake_calls _).mono ?_
                  rintro e w13 ⟨rfl, h2⟩
                  have HA := Lib.hid (S12.out.keep h2)
                  clear h2 S12
                  go_wp2_with fail
                  go_ret
                  exact ⟨rfl, HA.out.below⟩
            · have t4 : ¬ (q : Int) < 3 := by omega
              have Hkp := Lib.hid hkp
              clear hkp
              have S10 := Lib.hid (s10.eq (Q := fz (.pointer (some ⟨fb, 0, none⟩)) (some F) * (tro b p0 p1 p2 k * (tps (some ⟨fb, 0, none⟩) [p0, p1, p2] Ts * (pts gl (.cells #[pp p0, pp p1, pp p2] 43 (0, 0)) * (pts W.heap.size (.cells #[.int .i64 n0, .int .i64 n1, .int .i64 n2] 34 (0, 0)) * (row 9 1 (.slice av k cv) k (sv L) * emp)))))) (by ac_rfl))
              clear s10 hlv
              go_wp2_with fail
              refine (set_calls _ _ 0 _ (by omega) S10.out).mono ?_
              rintro e w11 ⟨rfl, s11⟩
              have S11 := Lib.hid s11
              clear s11 S10
              go_wp2_with fail
              go_loopw [11, 12, 17] (fun v11 v12 i wr => ∃ (j : Nat) (L' : List (List UInt8)) (nx' : List UInt8) (Ts' : List Tp) (Z : HP) (vz : Value), j ≤ 2 ∧ vz = v11 ∧ i = .int .i64 j ∧ v12 = str nx' ∧ (j ≠ 0 → nx' = []) ∧ (∀ x ∈ L', okr x) ∧ (jn L').length ≤ 251 * (20 + j) ∧ L'.length ≤ 20 + j ∧ Kp L' r nx' Ts' ∧
                St W.heap.size W wr (Z * (row 9 1 vz L'.length (sv L') * (tps (some ⟨fb, 0, none⟩) [p0, p1, p2] Ts' * (fz (.pointer (some ⟨fb, 0, none⟩)) (some (Fu.new 0)) * pts gl (.cells #[pp p0, pp p1, pp p2] 43 (0, 0))))))) (fun _ _ i _ => 2 - (intOf i).toNat)
              case atStart => exact ⟨0, L, nx, _, tro b p0 p1 p2 k * (pts W.heap.size (.cells #[.int .i64 n0, .int .i64 n1, .int .i64 n2] 34 (0, 0)) * emp), _, by omega, rfl, rfl, rfl, fun h => absurd rfl h, Hok.out, by omega, by rw [HlL.out]; omega, Hkp.out, by rw [HlL.out]; exact S11.out.eq (by ac_rfl)⟩
              case round =>
                obtain ⟨j, L', nx', Ts', Z, v11, hj, rfl, rfl, rfl, hj0, hokL, hjL, hlL', hkp, s12⟩ := hrel
                clear S11
                by_cases hjt : j < 2
                · have t3 : (j : Int) < 2 := by omega
                  obtain ⟨f, Ts2, hf, hkp2, hop⟩ := kp_open W.heap.size W p0 p1 p2 (some ⟨fb, 0, none⟩) (row 9 1 v11 L'.length (sv L') * (pts gl (.cells #[pp p0, pp p1, pp p2] 43 (0, 0)) * Z)) und_zero hokL Hor.out hkp (by have := Hor.out.2; rw [jn1_len]; omega)
                  have hlen2 : (L' ++ tl f r).length ≤ 20 + (j + 1) := by rw [List.length_append]; cases f <;> simp [tl] <;> omega
                  have hjn2 : (jn (L' ++ tl f r)).length ≤ 251 * (20 + (j + 1)) := by
                    have := Hor.out.2
                    cases f <;> simp [tl, jn_snoc, jn1_len] <;> omega
                  have hok2 : ∀ x ∈ L' ++ tl f r, okr x := by
                    intro x hx
                    rcases List.mem_append.1 hx with h | h
                    · exact hokL x h
                    · cases f <;> simp [tl] at h
                      subst h
                      exact Hor.out
                  have hT3 := hkp.1
                  have s13 := s12.eq (Q := pts gl (.cells #[pp p0, pp p1, pp p2] 43 (0, 0)) * (Z * (row 9 1 v11 L'.length (sv L') * (tps (some ⟨fb, 0, none⟩) [p0, p1, p2] Ts' * fz (.pointer (some ⟨fb, 0, none⟩)) (some (Fu.new 0)))))) (by ac_rfl)
                  have c0 := s13.cell 0
                  have c1 := s13.cell 1
                  have c2 := s13.cell 2
                  simp at c0 c1 c2
                  obtain ⟨a11, c11, rfl, -⟩ := (s12.eq (Q := row 9 1 v11 L'.length (sv L') * (Z * (tps (some ⟨fb, 0, none⟩) [p0, p1, p2] Ts' * (fz (.pointer (some ⟨fb, 0, none⟩)) (some (Fu.new 0)) * pts gl (.cells #[pp p0, pp p1, pp p2] 43 (0, 0)))))) (by ac_rfl)).rowSlice
                  have S12 := Lib.hid s12
                  have Hf := Lib.hid hf
                  have Hkp2 := Lib.hid hkp2
                  have Hop := Lib.hid hop
                  have Hok2 := Lib.hid hok2
                  have Hlen2 := Lib.hid hlen2
                  have Hjn2 := Lib.hid hjn2
                  have Hj0 := Lib.hid hj0
                  clear hf hkp2 hop hok2 hlen2 hjn2 hj0
                  clear s12 s13 hokL hkp
                  go_wp2_with fail
                  clear c0 c1 c2
                  refine (open_calls (some (Fu.new 0)) Ts' p0 p1 p2 (some ⟨fb, 0, none⟩) hT3 wr (R := row 9 1 (.slice a11 L'.length c11) L'.length (sv L') * (pts gl (.cells #[pp p0, pp p1, pp p2] 43 (0, 0)) * Z)) (S12.out.eq (by ac_rfl))).mono ?_
                  intro e w13 h
                  obtain ⟨X, b5, v5, vs5, rfl, hbr, s14⟩ := Hop.out _ _ h
                  have hL2 : (L' ++ tl f r).length ≤ 1000000 := by have := Hlen2.out; omega
                  generalize hLs : L' ++ tl f r = Ls at *
                  obtain ⟨A5, c5, rfl, h51, h52, h53, h54⟩ := hbr.val
                  have S14 := Lib.hid s14
                  have Hbr := Lib.hid hbr
                  have H53 := Lib.hid h53
                  have H54 := Lib.hid h54
                  have HLs := Lib.hid hLs
                  clear hbr h53 h54 hLs
                  clear s14 S12 h
                  go_wp2_with fail
                  obtain ⟨R14, hR14⟩ : ∃ ZZ, ZZ = X * (trx b5 (some ⟨fb, 0, none⟩) [p0, p1, p2] Ls.length Ts2 (some (Fu.new 0)) * (row 9 1 (.slice a11 L'.length c11) L'.length (sv L') * (pts gl (.cells #[pp p0, pp p1, pp p2] 43 (0, 0)) * Z))) := ⟨_, rfl⟩
                  have hrd : ∀ w' H, St W.heap.size W w' (H * R14) → BSS w' (.slice A5 Ls.length c5) Ls := fun w' H s => by
                    rw [hR14] at s
                    exact Hbr.out.bss (H := H * (trx b5 (some ⟨fb, 0, none⟩) [p0, p1, p2] Ls.length Ts2 (some (Fu.new 0)) * (row 9 1 (.slice a11 L'.length c11) L'.length (sv L') * (pts gl (.cells #[pp p0, pp p1, pp p2] 43 (0, 0)) * Z)))) (s.eq (by ac_rfl))
                  have s14 : St W.heap.size W w13 R14 := by rw [hR14]; exact S14.out
                  refine (strings_calls (.slice A5 Ls.length c5) Ls w13 hrd hL2 s14).mono ?_
                  clear hrd s14
                  rintro e w14 ⟨v7, rfl, s15⟩
                  obtain ⟨a7, c7, rfl, -⟩ := s15.rowSlice
                  have sl7 := St.sl _ s15
                  rw [hR14] at s15
                  have s16 := s15.eq (Q := row 9 1 (.slice a11 L'.length c11) L'.length (sv L') * (row 9 1 (.slice a7 Ls.length c7) Ls.length (sv Ls) * (X * (trx b5 (some ⟨fb, 0, none⟩) [p0, p1, p2] Ls.length Ts2 (some (Fu.new 0)) * (pts gl (.cells #[pp p0, pp p1, pp p2] 43 (0, 0)) * Z))))) (by ac_rfl)
                  have sl11 := St.sl _ s16
                  have qs := same_calls (.slice a7 Ls.length c7) (.slice a11 L'.length c11) Ls L' w14 sl7 sl11
                  have S16 := Lib.hid s16
                  clear s15 s16 sl7 sl11 S14 hR14
                  cases f with
                  | false =>
                    have e1 : Ls = L' := by rw [← HLs.out]; simp [tl]
                    rw [decide_eq_true e1] at qs
                    have Qs := Lib.hid qs
                    have E1 := Lib.hid e1
                    clear e1
                    clear qs
                    go_wp2_with fail
                    refine Qs.out.mono ?_
                    rintro e w15 ⟨rfl, had⟩
                    have S17 := Lib.hid (S16.out.keep had)
                    clear had S16 Qs
                    have hZ : row 9 1 (.slice a11 L'.length c11) L'.length (sv L') * (row 9 1 (.slice a7 Ls.length c7) Ls.length (sv Ls) * (X * (trx b5 (some ⟨fb, 0, none⟩) [p0, p1, p2] Ls.length Ts2 (some (Fu.new 0)) * (pts gl (.cells #[pp p0, pp p1, pp p2] 43 (0, 0)) * Z)))) =
                        (row 9 1 (.slice a11 L'.length c11) L'.length (sv L') * (X * (tro b5 p0 p1 p2 Ls.length * Z))) * (row 9 1 (.slice a7 Ls.length c7) Ls.length (sv Ls) * (tps (some ⟨fb, 0, none⟩) [p0, p1, p2] Ts2 * (fz (.pointer (some ⟨fb, 0, none⟩)) (some (Fu.new 0)) * pts gl (.cells #[pp p0, pp p1, pp p2] 43 (0, 0))))) := by
                      rw [trx_eq]; ac_rfl
                    have hZ2 : row 9 1 (.slice a11 L'.length c11) L'.length (sv L') * (row 9 1 (.slice a7 Ls.length c7) Ls.length (sv Ls) * (X * (trx b5 (some ⟨fb, 0, none⟩) [p0, p1, p2] Ls.length Ts2 (some (Fu.new 0)) * (pts gl (.cells #[pp p0, pp p1, pp p2] 43 (0, 0)) * Z)))) =
                        (row 9 1 (.slice a7 Ls.length c7) Ls.length (sv Ls) * (X * (tro b5 p0 p1 p2 Ls.length * Z))) * (row 9 1 (.slice a11 L'.length c11) L'.length (sv L') * (tps (some ⟨fb, 0, none⟩) [p0, p1, p2] Ts2 * (fz (.pointer (some ⟨fb, 0, none⟩)) (some (Fu.new 0)) * pts gl (.cells #[pp p0, pp p1, pp p2] 43 (0, 0))))) := by
                      rw [trx_eq]; ac_rfl
                    have S18 := Lib.hid (S17.out.eq hZ)
                    have S19 := Lib.hid (S17.out.eq hZ2)
                    clear hZ hZ2 S17
                    by_cases hj1 : j = 0
                    · subst hj1
                      go_wp2_with fail
                      go_roundw
                      case rel => exact ⟨1, Ls, [], Ts2, _, _, by omega, rfl, rfl, rfl, fun _ => rfl, Hok2.out, by have := Hjn2.out; omega, by have := Hlen2.out; omega, Hkp2.out, S18.out⟩
                      case measure => simp [intOf]
                    · have t5 : ((j : Int) == 0) = false := by rw [beq_eq_false_iff_ne]; omega
                      have H51 := Lib.hid (Hj0.out hj1)
                      have hj11 : j = 1 := by omega
                      subst hj11
                      go_wp2_with fail
                      go_roundw
                      case rel =>
                        have e51 := H51.out
                        exact ⟨2, L', nx', Ts2, _, _, by omega, rfl, rfl, rfl, fun _ => e51, by have := Hok2.out; rw [E1.out] at this; exact this, by have := Hjn2.out; rw [E1.out] at this; omega, by have := Hlen2.out; rw [E1.out] at this; omega, by have := Hkp2.out; rw [E1.out] at this; rw [e51]; exact this, S19.out⟩
                      case measure => simp [intOf]
                  | true =>
                    have e1 : Ls ≠ L' := by rw [← HLs.out]; simp [tl]
                    have e2 : nx' = r := by rcases Hf.out with h | h; · cases h
                                            · exact h
                    have e3 : j = 0 := by
                      by_cases h : j = 0
                      · exact h
                      · have := Hj0.out h
                        rw [e2] at this
                        exact absurd Hor.out.1 (by rw [this]; simp)
                    subst e3
                    subst e2
                    have e5 : Ls = L' ++ [nx'] := HLs.out.symm
                    rw [decide_eq_false e1] at qs
                    have Qs := Lib.hid qs
                    have E5 := Lib.hid e5
                    clear e5
                    clear qs e1
                    go_wp2_with fail
                    refine Qs.out.mono ?_
                    rintro e w15 ⟨rfl, had⟩
                    have S17 := Lib.hid (S16.out.keep had)
                    clear had S16 Qs
                    have s18 := (S17.out.alloc (.cells #[] 9)).rowMk (e := 9) (size := 1) (n := 0) (cap := 0) (by omega) (by unfold maxLen; omega) (by simp) rfl
                    have S18 := Lib.hid s18
                    clear s18
                    have hrd2 : ∀ w H, St W.heap.size W w (H * (row 9 1 (.slice a11 L'.length c11) L'.length (sv L') * (row 9 1 (.slice a7 Ls.length c7) Ls.length (sv Ls) * (X * (trx b5 (some ⟨fb, 0, none⟩) [p0, p1, p2] Ls.length Ts2 (some (Fu.new 0)) * (pts gl (.cells #[pp p0, pp p1, pp p2] 43 (0, 0)) * Z)))))) → Rd w a11 (sv L') := fun w H s =>
                      (s.eq (sep_left_comm _ _ _)).rowRd
                    have Hrd2 := Lib.hid hrd2
                    clear hrd2
                    have hne : ¬ nx' = [] := by intro e; exact absurd Hor.out.1 (by rw [e]; simp)
                    have hne2 : nx'.isEmpty = false := by simpa using hne
                    have HLX := Lib.hid (show L'.length ≤ 20 by omega)
                    have hov : ∀ u ∈ sv L', u.oneCell' = true := by intro u hu; simp [sv] at hu; obtain ⟨_, _, rfl⟩ := hu; rfl
                    have Hov := Lib.hid hov
                    clear hov
                    have hnn := (S17.out.rowSlice)
                    obtain ⟨_, _, hcq, -, -, hnn, -⟩ := hnn
                    cases hcq
                    have Hnn := Lib.hid hnn
                    clear hnn
                    go_wp2_with (at_builtin; (first
                      | (refine wpl_append_g (by simp [Region.wanted, yielded, hne]) _ _ rfl tSS S18.out a11 L'.length c11 (sv L') rfl rfl (Hrd2.out _ _ S18.out) Hnn.out (by simp [sv]) Hov.out (by have := HLX.out; unfold maxLen; omega) (by have := HLX.out; omega) ?_; intro v18 w18 s18; clear S18; have S20 := Lib.hid (show St W.heap.size W (w18.alloc (.cells #[str nx'] 9)) (row 9 1 v18 (0 + L'.length) (List.take (0 * 1) [] ++ sv L') * (pts w18.heap.size (.cells #[str nx'] 9) * (row 9 1 (.slice a11 L'.length c11) L'.length (sv L') * (row 9 1 (.slice a7 Ls.length c7) Ls.length (sv Ls) * (X * (trx b5 (some ⟨fb, 0, none⟩) [p0, p1, p2] Ls.length Ts2 (some (Fu.new 0)) * (pts gl (.cells #[pp p0, pp p1, pp p2] 43 (0, 0)) * Z))))))) from (s18.alloc (.cells #[str nx'] 9)).eq (sep_left_comm _ _ _)); have hrd3 := Lib.hid (Rd.new w18 #[str nx'] 9); clear s18)
                      | (refine wpl_append_g (by simp [Region.wanted, yielded, hne]) _ _ rfl tSS S20.out (some ⟨w18.heap.size, 0, none⟩) 1 1 [str nx'] rfl rfl hrd3.out (fun e => by cases e) (by simp) (by simp [Value.oneCell']) (by have := HLX.out; unfold maxLen; omega) (by have := HLX.out; omega) ?_; intro v19 w19 s19; have S21 := Lib.hid s19; clear s19 S20 hrd3)))
                    have e6 : sv Ls = List.take (0 * 1) [] ++ sv L' ++ [str nx'] := by rw [E5.out]; simp [sv]
                    have e7 : 0 + L'.length + 1 = Ls.length := by rw [E5.out]; simp
                    have s21 := S21.out
                    rw [← e6, e7] at s21
                    have hsl := St.sl _ s21
                    have hsl2 := St.sl _ (s21.eq (Q := row 9 1 (.slice a7 Ls.length c7) Ls.length (sv Ls) * (row 9 1 v19 Ls.length (sv Ls) * (pts w18.heap.size (.cells #[str nx'] 9) * (row 9 1 (.slice a11 L'.length c11) L'.length (sv L') * (X * (trx b5 (some ⟨fb, 0, none⟩) [p0, p1, p2] Ls.length Ts2 (some (Fu.new 0)) * (pts gl (.cells #[pp p0, pp p1, pp p2] 43 (0, 0)) * Z))))))) (by ac_rfl))
                    have qs := same_calls (.slice a7 Ls.length c7) v19 Ls Ls w19 hsl2 hsl
                    rw [decide_eq_true rfl] at qs
                    refine qs.mono ?_
                    rintro e w20 ⟨rfl, had⟩
                    have hZ : row 9 1 v19 Ls.length (sv Ls) * (pts w18.heap.size (.cells #[str nx'] 9) * (row 9 1 (.slice a11 L'.length c11) L'.length (sv L') * (row 9 1 (.slice a7 Ls.length c7) Ls.length (sv Ls) * (X * (trx b5 (some ⟨fb, 0, none⟩) [p0, p1, p2] Ls.length Ts2 (some (Fu.new 0)) * (pts gl (.cells #[pp p0, pp p1, pp p2] 43 (0, 0)) * Z)))))) =
                        (row 9 1 v19 Ls.length (sv Ls) * (pts w18.heap.size (.cells #[str nx'] 9) * (row 9 1 (.slice a11 L'.length c11) L'.length (sv L') * (X * (tro b5 p0 p1 p2 Ls.length * Z))))) * (row 9 1 (.slice a7 Ls.length c7) Ls.length (sv Ls) * (tps (some ⟨fb, 0, none⟩) [p0, p1, p2] Ts2 * (fz (.pointer (some ⟨fb, 0, none⟩)) (some (Fu.new 0)) * pts gl (.cells #[pp p0, pp p1, pp p2] 43 (0, 0))))) := by
                      rw [trx_eq]; ac_rfl
                    have S22 := Lib.hid ((s21.keep had).eq hZ)
                    clear s21 S21 S17 hsl hsl2 qs e6 e7 hZ had hne
                    go_wp2_with fail
                    go_roundw
                    case rel => exact ⟨1, Ls, [], Ts2, _, _, by omega, rfl, rfl, rfl, fun _ => rfl, Hok2.out, by have := Hjn2.out; omega, by have := Hlen2.out; omega, Hkp2.out, S22.out⟩
                    case measure => simp [intOf]
                · obtain rfl : j = 2 := by omega
                  have S12 := Lib.hid s12
                  clear s12 hkp hokL
                  go_wp2_with fail
                  refine (awake_calls _).mono ?_
                  rintro e w13 ⟨rfl, h2⟩
                  have HA := Lib.hid (S12.out.keep h2)
                  clear h2 S12
                  go_wp2_with fail
                  go_ret
                  exact ⟨rfl, HA.out.below⟩
      · skip
        go_wp2_with fail
        refine (tapes_calls b p0 p1 p2 k _ (R := tps (some ⟨fb, 0, none⟩) [p0, p1, p2] [lt (jn L) (jn1 r) g0, lt (jn L) (jn1 r) g1, lt (jn L) (jn1 r) g2] * (fz (.pointer (some ⟨fb, 0, none⟩)) (some F) * (row 9 1 (.slice av k cv) k (sv L) * Y0))) (S8.out.eq (by rw [trx_eq]; ac_rfl))).mono ?_
        rintro e w9 ⟨rfl, s9⟩
        have s9a := s9.alloc (.cells #[pp p0, pp p1, pp p2] 43)
        have S9 := Lib.hid s9a
        clear s9 s9a S8
        go_wp2_with fail
        generalize w9.alloc (.cells #[.pointer (some ⟨p0, 0, none⟩), .pointer (some ⟨p1, 0, none⟩), .pointer (some ⟨p2, 0, none⟩)] 43) = w10 at *
        generalize w9.heap.size = gl at *
        go_loopw [16] (fun i wr => ∃ j : Nat, j ≤ 3 ∧ i = .int .i64 j ∧ St W.heap.size W wr (CR W.heap.size b (some ⟨fb, 0, none⟩) p0 p1 p2 gl n0 n1 n2 (lt (jn L) (jn1 r) g0) (lt (jn L) (jn1 r) g1) (lt (jn L) (jn1 r) g2) F k (.slice av k cv) L j)) (fun i _ => 3 - (intOf i).toNat)
        case atStart => exact ⟨0, Nat.zero_le _, rfl, S9.out.eq (by rw [← HY.out]; unfold CR; show _ = tps _ _ [lt (jn L) (jn1 r) g0, lt (jn L) (jn1 r) g1, lt (jn L) (jn1 r) g2] * _; ac_rfl)⟩
        case round =>
          obtain ⟨j, hj, rfl, s10⟩ := hrel
          clear S9
          by_cases hjt : j < 3
          · have hjI : (j : Int) < 3 := by omega
            obtain ⟨pj, hpj⟩ : ∃ z, [p0, p1, p2].getD j 0 = z := ⟨_, rfl⟩
            obtain ⟨nj, hnj⟩ : ∃ z, [n0, n1, n2].getD j 0 = z := ⟨_, rfl⟩
            have hg1 := fun (m : Nat) (w : World) (s : St W.heap.size W w (CR W.heap.size b (some ⟨fb, 0, none⟩) p0 p1 p2 gl n0 n1 n2 (lt (jn L) (jn1 r) g0) (lt (jn L) (jn1 r) g1) (lt (jn L) (jn1 r) g2) F k (.slice av k cv) L m)) => (cr_cell s j hjt).1
            have hg2 := fun (m : Nat) (w : World) (s : St W.heap.size W w (CR W.heap.size b (some ⟨fb, 0, none⟩) p0 p1 p2 gl n0 n1 n2 (lt (jn L) (jn1 r) g0) (lt (jn L) (jn1 r) g1) (lt (jn L) (jn1 r) g2) F k (.slice av k cv) L m)) => (cr_cell s j hjt).2
            have hcc := fun (w : World) (s : St W.heap.size W w (CR W.heap.size b (some ⟨fb, 0, none⟩) p0 p1 p2 gl n0 n1 n2 (lt (jn L) (jn1 r) g0) (lt (jn L) (jn1 r) g1) (lt (jn L) (jn1 r) g2) F k (.slice av k cv) L j)) => cr_crash s hm0 hm1 hm2 hjt
            rw [hpj] at hg1 hcc
            rw [hnj] at hg2 hcc
            have c1 := hg1 j wr s10
            have S10 := Lib.hid s10
            have Hg1 := Lib.hid hg1
            have Hg2 := Lib.hid hg2
            have Hcc := Lib.hid hcc
            clear hg1 hg2 hcc
            clear s10 hpj hnj
            go_wp2_with fail
            refine wp_region_rx (fun i w => St W.heap.size W w (CR W.heap.size b (some ⟨fb, 0, none⟩) p0 p1 p2 gl n0 n1 n2 (lt (jn L) (jn1 r) g0) (lt (jn L) (jn1 r) g1) (lt (jn L) (jn1 r) g2) F k (.slice av k cv) L (if i = 0 then j else j + 1))) [6] mixed (by kernel_rfl) (by kernel_rfl) S10.out.drew ?_
            refine RXl.exact (.int .i64 j) rfl rfl rfl rfl rfl (fun _ _ _ _ _ => rfl) ?_
            refine RXl.exact (.pointer (some ⟨gl, j, none⟩)) rfl rfl rfl rfl rfl (fun j τ w' hj hJ => by simp [rho, upd, Spec.val, execOp, go_sem, hjI]) ?_
            refine RXl.exact (pp pj) rfl rfl rfl rfl rfl (fun j τ w' hj hJ => by have c := Hg1.out _ _ hJ; simp [rho, upd, Spec.val, execOp, go_sem, c]) ?_
            refine RXl.exact (.int .i64 j) rfl rfl rfl rfl rfl (fun _ _ _ _ _ => rfl) ?_
            refine RXl.exact (.pointer (some ⟨W.heap.size, j, none⟩)) rfl rfl rfl rfl rfl (fun j τ w' hj hJ => by simp [rho, upd, Spec.val, execOp, go_sem, hjI]) ?_
            refine RXl.exact (.int .i64 nj) rfl rfl rfl rfl rfl (fun j τ w' hj hJ => by have c := Hg2.out _ _ hJ; simp [rho, upd, Spec.val, execOp, go_sem, c]) ?_
            refine RXl.callj 0 (.tuple #[]) _ [pp pj, .int .i64 nj] [.tmp 96, .tmp 99] _ rfl rfl rfl rfl rfl rfl (fun _ => rfl) (fun w' hJ => Hcc.out w' hJ) ?_
            refine RXl.nilx _ (Agr.upd _ _ (Agr.upd _ _ (Agr.upd _ _ (Agr.upd _ _ (Agr.upd _ _ (Agr.upd _ _ (Agr.upd _ _ (Agr.base _)))))))) fun w12 hJ => ?_
            obtain ⟨_, hJ⟩ := hJ
            simp only [Act.put, List.setIfInBounds_toArray, List.set_cons_succ, List.set_cons_zero]
            have S11 := Lib.hid (show St W.heap.size W w12 (CR W.heap.size b (some ⟨fb, 0, none⟩) p0 p1 p2 gl n0 n1 n2 (lt (jn L) (jn1 r) g0) (lt (jn L) (jn1 r) g1) (lt (jn L) (jn1 r) g2) F k (.slice av k cv) L (j + 1)) from hJ)
            clear hJ S10 c1
            go_wp2_with fail
            go_roundw
            case rel => exact ⟨j + 1, by omega, by go_num, S11.out⟩
            case measure => simp [intOf]; omega
          · obtain rfl : j = 3 := by omega
            have hkp := kp_crash L r g0 g1 g2 n0 n1 n2 nx Hn.out
            have hlv := crs_live L r g0 g1 g2 n0 n1 n2
            unfold CR at s10
            generalize crs (lt (jn L) (jn1 r) g0) (lt (jn L) (jn1 r) g1) (lt (jn L) (jn1 r) g2) n0 n1 n2 3 = Ts at *
            by_cases hq3 : q < 3
            · have t4 : (q : Int) < 3 := by omega
              have s11 := s10.eq (Q := pts gl (.cells #[pp p0, pp p1, pp p2] 43 (0, 0)) * (tps (some ⟨fb, 0, none⟩) [p0, p1, p2] Ts * (pts W.heap.size (.cells #[.int .i64 n0, .int .i64 n1, .int .i64 n2] 34 (0, 0)) * (tro b p0 p1 p2 k * (fz (.pointer (some ⟨fb, 0, none⟩)) (some F) * (row 9 1 (.slice av k cv) k (sv L) * emp)))))) (by ac_rfl)
              have c1 : wr.cell? ⟨gl, q, none⟩ = some (pp ([p0, p1, p2].getD q 0)) := by
                obtain rfl | rfl | rfl : q = 0 ∨ q = 1 ∨ q = 2 := by omega
                · exact s11.cell 0
                · exact s11.cell 1
                · exact s11.cell 2
              have qf := tfail_calls (some ⟨fb, 0, none⟩) [p0, p1, p2] Ts q (by simpa using hq3) (by rw [hkp.1]; exact hq3) wr s10
              have hkp := kp_fail hkp hlv q hq3
              generalize [p0, p1, p2].getD q 0 = pq at *
              generalize Ts.set q ⟨(Ts.getD q Tp.new).b, (Ts.getD q Tp.new).loose, true⟩ = Ts1 at *
              have Qf := Lib.hid qf
              have Hkp := Lib.hid hkp
              clear hkp
              clear s10 s11 qf hlv
              go_wp2_with fail
              refine Qf.out.mono ?_
              rintro e w10 ⟨rfl, s12⟩
              have S10 := Lib.hid (s12.eq (Q := fz (.pointer (some ⟨fb, 0, none⟩)) (some F) * (tro b p0 p1 p2 k * (tps (some ⟨fb, 0, none⟩) [p0, p1, p2] Ts1 * (pts gl (.cells #[pp p0, pp p1, pp p2] 43 (0, 0)) * (pts W.heap.size (.cells #[.int .i64 n0, .int .i64 n1, .int .i64 n2] 34 (0, 0)) * (row 9 1 (.slice av k cv) k (sv L) * emp)))))) (by ac_rfl))
              clear s12 Qf c1
              go_wp2_with fail
              refine (set_calls _ _ 0 _ (by omega) S10.out).mono ?_
              rintro e w11 ⟨rfl, s11⟩
              have S11 := Lib.hid s11
              clear s11 S10
              go_wp2_with fail
              go_loopw [11, 12, 17] (fun v11 v12 i wr => ∃ (j : Nat) (L' : List (List UInt8)) (nx' : List UInt8) (Ts' : List Tp) (Z : HP) (vz : Value), j ≤ 2 ∧ vz = v11 ∧ i = .int .i64 j ∧ v12 = str nx' ∧ (j ≠ 0 → nx' = []) ∧ (∀ x ∈ L', okr x) ∧ (jn L').length ≤ 251 * (20 + j) ∧ L'.length ≤ 20 + j ∧ Kp L' r nx' Ts' ∧
                St W.heap.size W wr (Z * (row 9 1 vz L'.length (sv L') * (tps (some ⟨fb, 0, none⟩) [p0, p1, p2] Ts' * (fz (.pointer (some ⟨fb, 0, none⟩)) (some (Fu.new 0)) * pts gl (.cells #[pp p0, pp p1, pp p2] 43 (0, 0))))))) (fun _ _ i _ => 2 - (intOf i).toNat)
              case atStart => exact ⟨0, L, nx, _, tro b p0 p1 p2 k * (pts W.heap.size (.cells #[.int .i64 n0, .int .i64 n1, .int .i64 n2] 34 (0, 0)) * emp), _, by omega, rfl, rfl, rfl, fun h => absurd rfl h, Hok.out, by omega, by rw [HlL.out]; omega, Hkp.out, by rw [HlL.out]; exact S11.out.eq (by ac_rfl)⟩
              case round =>
                obtain ⟨j, L', nx', Ts', Z, v11, hj, rfl, rfl, rfl, hj0, hokL, hjL, hlL', hkp, s12⟩ := hrel
                clear S11
                by_cases hjt : j < 2
                · have t3 : (j : Int) < 2 := by omega
                  obtain ⟨f, Ts2, hf, hkp2, hop⟩ := kp_open W.heap.size W p0 p1 p2 (some ⟨fb, 0, none⟩) (row 9 1 v11 L'.length (sv L') * (pts gl (.cells #[pp p0, pp p1, pp p2] 43 (0, 0)) * Z)) und_zero hokL Hor.out hkp (by have := Hor.out.2; rw [jn1_len]; omega)
                  have hlen2 : (L' ++ tl f r).length ≤ 20 + (j + 1) := by rw [List.length_append]; cases f <;> simp [tl] <;> omega
                  have hjn2 : (jn (L' ++ tl f r)).length ≤ 251 * (20 + (j + 1)) := by
                    have := Hor.out.2
                    cases f <;> simp [tl, jn_snoc, jn1_len] <;> omega
                  have hok2 : ∀ x ∈ L' ++ tl f r, okr x := by
                    intro x hx
                    rcases List.mem_append.1 hx with h | h
                    · exact hokL x h
                    · cases f <;> simp [tl] at h
                      subst h
                      exact Hor.out
                  have hT3 := hkp.1
                  have s13 := s12.eq (Q := pts gl (.cells #[pp p0, pp p1, pp p2] 43 (0, 0)) * (Z * (row 9 1 v11 L'.length (sv L') * (tps (some ⟨fb, 0, none⟩) [p0, p1, p2] Ts' * fz (.pointer (some ⟨fb, 0, none⟩)) (some (Fu.new 0)))))) (by ac_rfl)
                  have c0 := s13.cell 0
                  have c1 := s13.cell 1
                  have c2 := s13.cell 2
                  simp at c0 c1 c2
                  obtain ⟨a11, c11, rfl, -⟩ := (s12.eq (Q := row 9 1 v11 L'.length (sv L') * (Z * (tps (some ⟨fb, 0, none⟩) [p0, p1, p2] Ts' * (fz (.pointer (some ⟨fb, 0, none⟩)) (some (Fu.new 0)) * pts gl (.cells #[pp p0, pp p1, pp p2] 43 (0, 0)))))) (by ac_rfl)).rowSlice
                  have S12 := Lib.hid s12
                  have Hf := Lib.hid hf
                  have Hkp2 := Lib.hid hkp2
                  have Hop := Lib.hid hop
                  have Hok2 := Lib.hid hok2
                  have Hlen2 := Lib.hid hlen2
                  have Hjn2 := Lib.hid hjn2
                  have Hj0 := Lib.hid hj0
                  clear hf hkp2 hop hok2 hlen2 hjn2 hj0
                  clear s12 s13 hokL hkp
                  go_wp2_with fail
                  clear c0 c1 c2
                  refine (open_calls (some (Fu.new 0)) Ts' p0 p1 p2 (some ⟨fb, 0, none⟩) hT3 wr (R := row 9 1 (.slice a11 L'.length c11) L'.length (sv L') * (pts gl (.cells #[pp p0, pp p1, pp p2] 43 (0, 0)) * Z)) (S12.out.eq (by ac_rfl))).mono ?_
                  intro e w13 h
                  obtain ⟨X, b5, v5, vs5, rfl, hbr, s14⟩ := Hop.out _ _ h
                  have hL2 : (L' ++ tl f r).length ≤ 1000000 := by have := Hlen2.out; omega
                  generalize hLs : L' ++ tl f r = Ls at *
                  obtain ⟨A5, c5, rfl, h51, h52, h53, h54⟩ := hbr.val
                  have S14 := Lib.hid s14
                  have Hbr := Lib.hid hbr
                  have H53 := Lib.hid h53
                  have H54 := Lib.hid h54
                  have HLs := Lib.hid hLs
                  clear hbr h53 h54 hLs
                  clear s14 S12 h
                  go_wp2_with fail
                  obtain ⟨R14, hR14⟩ : ∃ ZZ, ZZ = X * (trx b5 (some ⟨fb, 0, none⟩) [p0, p1, p2] Ls.length Ts2 (some (Fu.new 0)) * (row 9 1 (.slice a11 L'.length c11) L'.length (sv L') * (pts gl (.cells #[pp p0, pp p1, pp p2] 43 (0, 0)) * Z))) := ⟨_, rfl⟩
                  have hrd : ∀ w' H, St W.heap.size W w' (H * R14) → BSS w' (.slice A5 Ls.length c5) Ls := fun w' H s => by
                    rw [hR14] at s
                    exact Hbr.out.bss (H := H * (trx b5 (some ⟨fb, 0, none⟩) [p0, p1, p2] Ls.length Ts2 (some (Fu.new 0)) * (row 9 1 (.slice a11 L'.length c11) L'.length (sv L') * (pts gl (.cells #[pp p0, pp p1, pp p2] 43 (0, 0)) * Z)))) (s.eq (by ac_rfl))
                  have s14 : St W.heap.size W w13 R14 := by rw [hR14]; exact S14.out
                  refine (strings_calls (.slice A5 Ls.length c5) Ls w13 hrd hL2 s14).mono ?_
                  clear hrd s14
                  rintro e w14 ⟨v7, rfl, s15⟩
                  obtain ⟨a7, c7, rfl, -⟩ := s15.rowSlice
                  have sl7 := St.sl _ s15
                  rw [hR14] at s15
                  have s16 := s15.eq (Q := row 9 1 (.slice a11 L'.length c11) L'.length (sv L') * (row 9 1 (.slice a7 Ls.length c7) Ls.length (sv Ls) * (X * (trx b5 (some ⟨fb, 0, none⟩) [p0, p1, p2] Ls.length Ts2 (some (Fu.new 0)) * (pts gl (.cells #[pp p0, pp p1, pp p2] 43 (0, 0)) * Z))))) (by ac_rfl)
                  have sl11 := St.sl _ s16
                  have qs := same_calls (.slice a7 Ls.length c7) (.slice a11 L'.length c11) Ls L' w14 sl7 sl11
                  have S16 := Lib.hid s16
                  clear s15 s16 sl7 sl11 S14 hR14
                  cases f with
                  | false =>
                    have e1 : Ls = L' := by rw [← HLs.out]; simp [tl]
                    rw [decide_eq_true e1] at qs
                    have Qs := Lib.hid qs
                    have E1 := Lib.hid e1
                    clear e1
                    clear qs
                    go_wp2_with fail
                    refine Qs.out.mono ?_
                    rintro e w15 ⟨rfl, had⟩
                    have S17 := Lib.hid (S16.out.keep had)
                    clear had S16 Qs
                    have hZ : row 9 1 (.slice a11 L'.length c11) L'.length (sv L') * (row 9 1 (.slice a7 Ls.length c7) Ls.length (sv Ls) * (X * (trx b5 (some ⟨fb, 0, none⟩) [p0, p1, p2] Ls.length Ts2 (some (Fu.new 0)) * (pts gl (.cells #[pp p0, pp p1, pp p2] 43 (0, 0)) * Z)))) =
                        (row 9 1 (.slice a11 L'.length c11) L'.length (sv L') * (X * (tro b5 p0 p1 p2 Ls.length * Z))) * (row 9 1 (.slice a7 Ls.length c7) Ls.length (sv Ls) * (tps (some ⟨fb, 0, none⟩) [p0, p1, p2] Ts2 * (fz (.pointer (some ⟨fb, 0, none⟩)) (some (Fu.new 0)) * pts gl (.cells #[pp p0, pp p1, pp p2] 43 (0, 0))))) := by
                      rw [trx_eq]; ac_rfl
                    have hZ2 : row 9 1 (.slice a11 L'.length c11) L'.length (sv L') * (row 9 1 (.slice a7 Ls.length c7) Ls.length (sv Ls) * (X * (trx b5 (some ⟨fb, 0, none⟩) [p0, p1, p2] Ls.length Ts2 (some (Fu.new 0)) * (pts gl (.cells #[pp p0, pp p1, pp p2] 43 (0, 0)) * Z)))) =
                        (row 9 1 (.slice a7 Ls.length c7) Ls.length (sv Ls) * (X * (tro b5 p0 p1 p2 Ls.length * Z))) * (row 9 1 (.slice a11 L'.length c11) L'.length (sv L') * (tps (some ⟨fb, 0, none⟩) [p0, p1, p2] Ts2 * (fz (.pointer (some ⟨fb, 0, none⟩)) (some (Fu.new 0)) * pts gl (.cells #[pp p0, pp p1, pp p2] 43 (0, 0))))) := by
                      rw [trx_eq]; ac_rfl
                    have S18 := Lib.hid (S17.out.eq hZ)
                    have S19 := Lib.hid (S17.out.eq hZ2)
                    clear hZ hZ2 S17
                    by_cases hj1 : j = 0
                    · subst hj1
                      go_wp2_with fail
                      go_roundw
                      case rel => exact ⟨1, Ls, [], Ts2, _, _, by omega, rfl, rfl, rfl, fun _ => rfl, Hok2.out, by have := Hjn2.out; omega, by have := Hlen2.out; omega, Hkp2.out, S18.out⟩
                      case measure => simp [intOf]
                    · have t5 : ((j : Int) == 0) = false := by rw [beq_eq_false_iff_ne]; omega
                      have H51 := Lib.hid (Hj0.out hj1)
                      have hj11 : j = 1 := by omega
                      subst hj11
                      go_wp2_with fail
                      go_roundw
                      case rel =>
                        have e51 := H51.out
                        exact ⟨2, L', nx', Ts2, _, _, by omega, rfl, rfl, rfl, fun _ => e51, by have := Hok2.out; rw [E1.out] at this; exact this, by have := Hjn2.out; rw [E1.out] at this; omega, by have := Hlen2.out; rw [E1.out] at this; omega, by have := Hkp2.out; rw [E1.out] at this; rw [e51]; exact this, S19.out⟩
                      case measure => simp [intOf]
                  | true =>
                    have e1 : Ls ≠ L' := by rw [← HLs.out]; simp [tl]
                    have e2 : nx' = r := by rcases Hf.out with h | h; · cases h
                                            · exact h
                    have e3 : j = 0 := by
                      by_cases h : j = 0
                      · exact h
                      · have := Hj0.out h
                        rw [e2] at this
                        exact absurd Hor.out.1 (by rw [this]; simp)
                    subst e3
                    subst e2
                    have e5 : Ls = L' ++ [nx'] := HLs.out.symm
                    rw [decide_eq_false e1] at qs
                    have Qs := Lib.hid qs
                    have E5 := Lib.hid e5
                    clear e5
                    clear qs e1
                    go_wp2_with fail
                    refine Qs.out.mono ?_
                    rintro e w15 ⟨rfl, had⟩
                    have S17 := Lib.hid (S16.out.keep had)
                    clear had S16 Qs
                    have s18 := (S17.out.alloc (.cells #[] 9)).rowMk (e := 9) (size := 1) (n := 0) (cap := 0) (by omega) (by unfold maxLen; omega) (by simp) rfl
                    have S18 := Lib.hid s18
                    clear s18
                    have hrd2 : ∀ w H, St W.heap.size W w (H * (row 9 1 (.slice a11 L'.length c11) L'.length (sv L') * (row 9 1 (.slice a7 Ls.length c7) Ls.length (sv Ls) * (X * (trx b5 (some ⟨fb, 0, none⟩) [p0, p1, p2] Ls.length Ts2 (some (Fu.new 0)) * (pts gl (.cells #[pp p0, pp p1, pp p2] 43 (0, 0)) * Z)))))) → Rd w a11 (sv L') := fun w H s =>
                      (s.eq (sep_left_comm _ _ _)).rowRd
                    have Hrd2 := Lib.hid hrd2
                    clear hrd2
                    have hne : ¬ nx' = [] := by intro e; exact absurd Hor.out.1 (by rw [e]; simp)
                    have hne2 : nx'.isEmpty = false := by simpa using hne
                    have HLX := Lib.hid (show L'.length ≤ 20 by omega)
                    have hov : ∀ u ∈ sv L', u.oneCell' = true := by intro u hu; simp [sv] at hu; obtain ⟨_, _, rfl⟩ := hu; rfl
                    have Hov := Lib.hid hov
                    clear hov
                    have hnn := (S17.out.rowSlice)
                    obtain ⟨_, _, hcq, -, -, hnn, -⟩ := hnn
                    cases hcq
                    have Hnn := Lib.hid hnn
                    clear hnn
                    go_wp2_with (at_builtin; (first
                      | (refine wpl_append_g (by simp [Region.wanted, yielded, hne]) _ _ rfl tSS S18.out a11 L'.length c11 (sv L') rfl rfl (Hrd2.out _ _ S18.out) Hnn.out (by simp [sv]) Hov.out (by have := HLX.out; unfold maxLen; omega) (by have := HLX.out; omega) ?_; intro v18 w18 s18; clear S18; have S20 := Lib.hid (show St W.heap.size W (w18.alloc (.cells #[str nx'] 9)) (row 9 1 v18 (0 + L'.length) (List.take (0 * 1) [] ++ sv L') * (pts w18.heap.size (.cells #[str nx'] 9) * (row 9 1 (.slice a11 L'.length c11) L'.length (sv L') * (row 9 1 (.slice a7 Ls.length c7) Ls.length (sv Ls) * (X * (trx b5 (some ⟨fb, 0, none⟩) [p0, p1, p2] Ls.length Ts2 (some (Fu.new 0)) * (pts gl (.cells #[pp p0, pp p1, pp p2] 43 (0, 0)) * Z))))))) from (s18.alloc (.cells #[str nx'] 9)).eq (sep_left_comm _ _ _)); have hrd3 := Lib.hid (Rd.new w18 #[str nx'] 9); clear s18)
                      | (refine wpl_append_g (by simp [Region.wanted, yielded, hne]) _ _ rfl tSS S20.out (some ⟨w18.heap.size, 0, none⟩) 1 1 [str nx'] rfl rfl hrd3.out (fun e => by cases e) (by simp) (by simp [Value.oneCell']) (by have := HLX.out; unfold maxLen; omega) (by have := HLX.out; omega) ?_; intro v19 w19 s19; have S21 := Lib.hid s19; clear s19 S20 hrd3)))
                    have e6 : sv Ls = List.take (0 * 1) [] ++ sv L' ++ [str nx'] := by rw [E5.out]; simp [sv]
                    have e7 : 0 + L'.length + 1 = Ls.length := by rw [E5.out]; simp
                    have s21 := S21.out
                    rw [← e6, e7] at s21
                    have hsl := St.sl _ s21
                    have hsl2 := St.sl _ (s21.eq (Q := row 9 1 (.slice a7 Ls.length c7) Ls.length (sv Ls) * (row 9 1 v19 Ls.length (sv Ls) * (pts w18.heap.size (.cells #[str nx'] 9) * (row 9 1 (.slice a11 L'.length c11) L'.length (sv L') * (X * (trx b5 (some ⟨fb, 0, none⟩) [p0, p1, p2] Ls.length Ts2 (some (Fu.new 0)) * (pts gl (.cells #[pp p0, pp p1, pp p2] 43 (0, 0)) * Z))))))) (by ac_rfl))
                    have qs := same_calls (.slice a7 Ls.length c7) v19 Ls Ls w19 hsl2 hsl
                    rw [decide_eq_true rfl] at qs
                    refine qs.mono ?_
                    rintro e w20 ⟨rfl, had⟩
                    have hZ : row 9 1 v19 Ls.length (sv Ls) * (pts w18.heap.size (.cells #[str nx'] 9) * (row 9 1 (.slice a11 L'.length c11) L'.length (sv L') * (row 9 1 (.slice a7 Ls.length c7) Ls.length (sv Ls) * (X * (trx b5 (some ⟨fb, 0, none⟩) [p0, p1, p2] Ls.length Ts2 (some (Fu.new 0)) * (pts gl (.cells #[pp p0, pp p1, pp p2] 43 (0, 0)) * Z)))))) =
                        (row 9 1 v19 Ls.length (sv Ls) * (pts w18.heap.size (.cells #[str nx'] 9) * (row 9 1 (.slice a11 L'.length c11) L'.length (sv L') * (X * (tro b5 p0 p1 p2 Ls.length * Z))))) * (row 9 1 (.slice a7 Ls.length c7) Ls.length (sv Ls) * (tps (some ⟨fb, 0, none⟩) [p0, p1, p2] Ts2 * (fz (.pointer (some ⟨fb, 0, none⟩)) (some (Fu.new 0)) * pts gl (.cells #[pp p0, pp p1, pp p2] 43 (0, 0))))) := by
                      rw [trx_eq]; ac_rfl
                    have S22 := Lib.hid ((s21.keep had).eq hZ)
                    clear s21 S21 S17 hsl hsl2 qs e6 e7 hZ had hne
                    go_wp2_with fail
                    go_roundw
                    case rel => exact ⟨1, Ls, [], Ts2, _, _, by omega, rfl, rfl, rfl, fun _ => rfl, Hok2.out, by have := Hjn2.out; omega, by have := Hlen2.out; omega, Hkp2.out, S22.out⟩
                    case measure => simp [intOf]
                · obtain rfl : j = 2 := by omega
                  have S12 := Lib.hid s12
                  clear s12 hkp hokL
                  go_wp2_with fail
                  refine (awake_calls _).mono ?_
                  rintro e w13 ⟨rfl, h2⟩
                  have HA := Lib.hid (S12.out.keep h2)
                  clear h2 S12
                  go_wp2_with fail
                  go_ret
                  exact ⟨rfl, HA.out.below⟩
            · have t4 : ¬ (q : Int) < 3 := by omega
              have Hkp := Lib.hid hkp
              clear hkp
              have S10 := Lib.hid (s10.eq (Q := fz (.pointer (some ⟨fb, 0, none⟩)) (some F) * (tro b p0 p1 p2 k * (tps (some ⟨fb, 0, none⟩) [p0, p1, p2] Ts * (pts gl (.cells #[pp p0, pp p1, pp p2] 43 (0, 0)) * (pts W.heap.size (.cells #[.int .i64 n0, .int .i64 n1, .int .i64 n2] 34 (0, 0)) * (row 9 1 (.slice av k cv) k (sv L) * emp)))))) (by ac_rfl))
              clear s10 hlv
              go_wp2_with fail
              refine (set_calls _ _ 0 _ (by omega) S10.out).mono ?_
              rintro e w11 ⟨rfl, s11⟩
              have S11 := Lib.hid s11
              clear s11 S10
              go_wp2_with fail
              go_loopw [11, 12, 17] (fun v11 v12 i wr => ∃ (j : Nat) (L' : List (List UInt8)) (nx' : List UInt8) (Ts' : List Tp) (Z : HP) (vz : Value), j ≤ 2 ∧ vz = v11 ∧ i = .int .i64 j ∧ v12 = str nx' ∧ (j ≠ 0 → nx' = []) ∧ (∀ x ∈ L', okr x) ∧ (jn L').length ≤ 251 * (20 + j) ∧ L'.length ≤ 20 + j ∧ Kp L' r nx' Ts' ∧
                St W.heap.size W wr (Z * (row 9 1 vz L'.length (sv L') * (tps (some ⟨fb, 0, none⟩) [p0, p1, p2] Ts' * (fz (.pointer (some ⟨fb, 0, none⟩)) (some (Fu.new 0)) * pts gl (.cells #[pp p0, pp p1, pp p2] 43 (0, 0))))))) (fun _ _ i _ => 2 - (intOf i).toNat)
              case atStart => exact ⟨0, L, nx, _, tro b p0 p1 p2 k * (pts W.heap.size (.cells #[.int .i64 n0, .int .i64 n1, .int .i64 n2] 34 (0, 0)) * emp), _, by omega, rfl, rfl, rfl, fun h => absurd rfl h, Hok.out, by omega, by rw [HlL.out]; omega, Hkp.out, by rw [HlL.out]; exact S11.out.eq (by ac_rfl)⟩
              case round =>
                obtain ⟨j, L', nx', Ts', Z, v11, hj, rfl, rfl, rfl, hj0, hokL, hjL, hlL', hkp, s12⟩ := hrel
                clear S11
                by_cases hjt : j < 2
                · have t3 : (j : Int) < 2 := by omega
                  obtain ⟨f, Ts2, hf, hkp2, hop⟩ := kp_open W.heap.size W p0 p1 p2 (some ⟨fb, 0, none⟩) (row 9 1 v11 L'.length (sv L') * (pts gl (.cells #[pp p0, pp p1, pp p2] 43 (0, 0)) * Z)) und_zero hokL Hor.out hkp (by have := Hor.out.2; rw [jn1_len]; omega)
                  have hlen2 : (L' ++ tl f r).length ≤ 20 + (j + 1) := by rw [List.length_append]; cases f <;> simp [tl] <;> omega
                  have hjn2 : (jn (L' ++ tl f r)).length ≤ 251 * (20 + (j + 1)) := by
                    have := Hor.out.2
                    cases f <;> simp [tl, jn_snoc, jn1_len] <;> omega
                  have hok2 : ∀ x ∈ L' ++ tl f r, okr x := by
                    intro x hx
                    rcases List.mem_append.1 hx with h | h
                    · exact hokL x h
                    · cases f <;> simp [tl] at h
                      subst h
                      exact Hor.out
                  have hT3 := hkp.1
                  have s13 := s12.eq (Q := pts gl (.cells #[pp p0, pp p1, pp p2] 43 (0, 0)) * (Z * (row 9 1 v11 L'.length (sv L') * (tps (some ⟨fb, 0, none⟩) [p0, p1, p2] Ts' * fz (.pointer (some ⟨fb, 0, none⟩)) (some (Fu.new 0)))))) (by ac_rfl)
                  have c0 := s13.cell 0
                  have c1 := s13.cell 1
                  have c2 := s13.cell 2
                  simp at c0 c1 c2
                  obtain ⟨a11, c11, rfl, -⟩ := (s12.eq (Q := row 9 1 v11 L'.length (sv L') * (Z * (tps (some ⟨fb, 0, none⟩) [p0, p1, p2] Ts' * (fz (.pointer (some ⟨fb, 0, none⟩)) (some (Fu.new 0)) * pts gl (.cells #[pp p0, pp p1, pp p2] 43 (0, 0)))))) (by ac_rfl)).rowSlice
                  have S12 := Lib.hid s12
                  have Hf := Lib.hid hf
                  have Hkp2 := Lib.hid hkp2
                  have Hop := Lib.hid hop
                  have Hok2 := Lib.hid hok2
                  have Hlen2 := Lib.hid hlen2
                  have Hjn2 := Lib.hid hjn2
                  have Hj0 := Lib.hid hj0
                  clear hf hkp2 hop hok2 hlen2 hjn2 hj0
                  clear s12 s13 hokL hkp
                  go_wp2_with fail
                  clear c0 c1 c2
                  refine (open_calls (some (Fu.new 0)) Ts' p0 p1 p2 (some ⟨fb, 0, none⟩) hT3 wr (R := row 9 1 (.slice a11 L'.length c11) L'.length (sv L') * (pts gl (.cells #[pp p0, pp p1, pp p2] 43 (0, 0)) * Z)) (S12.out.eq (by ac_rfl))).mono ?_
                  intro e w13 h
                  obtain ⟨X, b5, v5, vs5, rfl, hbr, s14⟩ := Hop.out _ _ h
                  have hL2 : (L' ++ tl f r).length ≤ 1000000 := by have := Hlen2.out; omega
                  generalize hLs : L' ++ tl f r = Ls at *
                  obtain ⟨A5, c5, rfl, h51, h52, h53, h54⟩ := hbr.val
                  have S14 := Lib.hid s14
                  have Hbr := Lib.hid hbr
                  have H53 := Lib.hid h53
                  have H54 := Lib.hid h54
                  have HLs := Lib.hid hLs
                  clear hbr h53 h54 hLs
                  clear s14 S12 h
                  go_wp2_with fail
                  obtain ⟨R14, hR14⟩ : ∃ ZZ, ZZ = X * (trx b5 (some ⟨fb, 0, none⟩) [p0, p1, p2] Ls.length Ts2 (some (Fu.new 0)) * (row 9 1 (.slice a11 L'.length c11) L'.length (sv L') * (pts gl (.cells #[pp p0, pp p1, pp p2] 43 (0, 0)) * Z))) := ⟨_, rfl⟩
                  have hrd : ∀ w' H, St W.heap.size W w' (H * R14) → BSS w' (.slice A5 Ls.length c5) Ls := fun w' H s => by
                    rw [hR14] at s
                    exact Hbr.out.bss (H := H * (trx b5 (some ⟨fb, 0, none⟩) [p0, p1, p2] Ls.length Ts2 (some (Fu.new 0)) * (row 9 1 (.slice a11 L'.length c11) L'.length (sv L') * (pts gl (.cells #[pp p0, pp p1, pp p2] 43 (0, 0)) * Z)))) (s.eq (by ac_rfl))
                  have s14 : St W.heap.size W w13 R14 := by rw [hR14]; exact S14.out
                  refine (strings_calls (.slice A5 Ls.length c5) Ls w13 hrd hL2 s14).mono ?_
                  clear hrd s14
                  rintro e w14 ⟨v7, rfl, s15⟩
                  obtain ⟨a7, c7, rfl, -⟩ := s15.rowSlice
                  have sl7 := St.sl _ s15
                  rw [hR14] at s15
                  have s16 := s15.eq (Q := row 9 1 (.slice a11 L'.length c11) L'.length (sv L') * (row 9 1 (.slice a7 Ls.length c7) Ls.length (sv Ls) * (X * (trx b5 (some ⟨fb, 0, none⟩) [p0, p1, p2] Ls.length Ts2 (some (Fu.new 0)) * (pts gl (.cells #[pp p0, pp p1, pp p2] 43 (0, 0)) * Z))))) (by ac_rfl)
                  have sl11 := St.sl _ s16
                  have qs := same_calls (.slice a7 Ls.length c7) (.slice a11 L'.length c11) Ls L' w14 sl7 sl11
                  have S16 := Lib.hid s16
                  clear s15 s16 sl7 sl11 S14 hR14
                  cases f with
                  | false =>
                    have e1 : Ls = L' := by rw [← HLs.out]; simp [tl]
                    rw [decide_eq_true e1] at qs
                    have Qs := Lib.hid qs
                    have E1 := Lib.hid e1
                    clear e1
                    clear qs
                    go_wp2_with fail
                    refine Qs.out.mono ?_
                    rintro e w15 ⟨rfl, had⟩
                    have S17 := Lib.hid (S16.out.keep had)
                    clear had S16 Qs
                    have hZ : row 9 1 (.slice a11 L'.length c11) L'.length (sv L') * (row 9 1 (.slice a7 Ls.length c7) Ls.length (sv Ls) * (X * (trx b5 (some ⟨fb, 0, none⟩) [p0, p1, p2] Ls.length Ts2 (some (Fu.new 0)) * (pts gl (.cells #[pp p0, pp p1, pp p2] 43 (0, 0)) * Z)))) =
                        (row 9 1 (.slice a11 L'.length c11) L'.length (sv L') * (X * (tro b5 p0 p1 p2 Ls.length * Z))) * (row 9 1 (.slice a7 Ls.length c7) Ls.length (sv Ls) * (tps (some ⟨fb, 0, none⟩) [p0, p1, p2] Ts2 * (fz (.pointer (some ⟨fb, 0, none⟩)) (some (Fu.new 0)) * pts gl (.cells #[pp p0, pp p1, pp p2] 43 (0, 0))))) := by
                      rw [trx_eq]; ac_rfl
                    have hZ2 : row 9 1 (.slice a11 L'.length c11) L'.length (sv L') * (row 9 1 (.slice a7 Ls.length c7) Ls.length (sv Ls) * (X * (trx b5 (some ⟨fb, 0, none⟩) [p0, p1, p2] Ls.length Ts2 (some (Fu.new 0)) * (pts gl (.cells #[pp p0, pp p1, pp p2] 43 (0, 0)) * Z)))) =
                        (row 9 1 (.slice a7 Ls.length c7) Ls.length (sv Ls) * (X * (tro b5 p0 p1 p2 Ls.length * Z))) * (row 9 1 (.slice a11 L'.length c11) L'.length (sv L') * (tps (some ⟨fb, 0, none⟩) [p0, p1, p2] Ts2 * (fz (.pointer (some ⟨fb, 0, none⟩)) (some (Fu.new 0)) * pts gl (.cells #[pp p0, pp p1, pp p2] 43 (0, 0))))) := by
                      rw [trx_eq]; ac_rfl
                    have S18 := Lib.hid (S17.out.eq hZ)
                    have S19 := Lib.hid (S17.out.eq hZ2)
                    clear hZ hZ2 S17
                    by_cases hj1 : j = 0
                    · subst hj1
                      go_wp2_with fail
                      go_roundw
                      case rel => exact ⟨1, Ls, [], Ts2, _, _, by omega, rfl, rfl, rfl, fun _ => rfl, Hok2.out, by have := Hjn2.out; omega, by have := Hlen2.out; omega, Hkp2.out, S18.out⟩
                      case measure => simp [intOf]
                    · have t5 : ((j : Int) == 0) = false := by rw [beq_eq_false_iff_ne]; omega
                      have H51 := Lib.hid (Hj0.out hj1)
                      have hj11 : j = 1 := by omega
                      subst hj11
                      go_wp2_with fail
                      go_roundw
                      case rel =>
                        have e51 := H51.out
                        exact ⟨2, L', nx', Ts2, _, _, by omega, rfl, rfl, rfl, fun _ => e51, by have := Hok2.out; rw [E1.out] at this; exact this, by have := Hjn2.out; rw [E1.out] at this; omega, by have := Hlen2.out; rw [E1.out] at this; omega, by have := Hkp2.out; rw [E1.out] at this; rw [e51]; exact this, S19.out⟩
                      case measure => simp [intOf]
                  | true =>
                    have e1 : Ls ≠ L' := by rw [← HLs.out]; simp [tl]
                    have e2 : nx' = r := by rcases Hf.out with h | h; · cases h
                                            · exact h
                    have e3 : j = 0 := by
                      by_cases h : j = 0
                      · exact h
                      · have := Hj0.out h
                        rw [e2] at this
                        exact absurd Hor.out.1 (by rw [this]; simp)
                    subst e3
                    subst e2
                    have e5 : Ls = L' ++ [nx'] := HLs.out.symm
                    rw [decide_eq_false e1] at qs
                    have Qs := Lib.hid qs
                    have E5 := Lib.hid e5
                    clear e5
                    clear qs e1
                    go_wp2_with fail
                    refine Qs.out.mono ?_
                    rintro e w15 ⟨rfl, had⟩
                    have S17 := Lib.hid (S16.out.keep had)
                    clear had S16 Qs
                    have s18 := (S17.out.alloc (.cells #[] 9)).rowMk (e := 9) (size := 1) (n := 0) (cap := 0) (by omega) (by unfold maxLen; omega) (by simp) rfl
                    have S18 := Lib.hid s18
                    clear s18
                    have hrd2 : ∀ w H, St W.heap.size W w (H * (row 9 1 (.slice a11 L'.length c11) L'.length (sv L') * (row 9 1 (.slice a7 Ls.length c7) Ls.length (sv Ls) * (X * (trx b5 (some ⟨fb, 0, none⟩) [p0, p1, p2] Ls.length Ts2 (some (Fu.new 0)) * (pts gl (.cells #[pp p0, pp p1, pp p2] 43 (0, 0)) * Z)))))) → Rd w a11 (sv L') := fun w H s =>
                      (s.eq (sep_left_comm _ _ _)).rowRd
                    have Hrd2 := Lib.hid hrd2
                    clear hrd2
                    have hne : ¬ nx' = [] := by intro e; exact absurd Hor.out.1 (by rw [e]; simp)
                    have hne2 : nx'.isEmpty = false := by simpa using hne
                    have HLX := Lib.hid (show L'.length ≤ 20 by omega)
                    have hov : ∀ u ∈ sv L', u.oneCell' = true := by intro u hu; simp [sv] at hu; obtain ⟨_, _, rfl⟩ := hu; rfl
                    have Hov := Lib.hid hov
                    clear hov
                    have hnn := (S17.out.rowSlice)
                    obtain ⟨_, _, hcq, -, -, hnn, -⟩ := hnn
                    cases hcq
                    have Hnn := Lib.hid hnn
                    clear hnn
                    go_wp2_with (at_builtin; (first
                      | (refine wpl_append_g (by simp [Region.wanted, yielded, hne]) _ _ rfl tSS S18.out a11 L'.length c11 (sv L') rfl rfl (Hrd2.out _ _ S18.out) Hnn.out (by simp [sv]) Hov.out (by have := HLX.out; unfold maxLen; omega) (by have := HLX.out; omega) ?_; intro v18 w18 s18; clear S18; have S20 := Lib.hid (show St W.heap.size W (w18.alloc (.cells #[str nx'] 9)) (row 9 1 v18 (0 + L'.length) (List.take (0 * 1) [] ++ sv L') * (pts w18.heap.size (.cells #[str nx'] 9) * (row 9 1 (.slice a11 L'.length c11) L'.length (sv L') * (row 9 1 (.slice a7 Ls.length c7) Ls.length (sv Ls) * (X * (trx b5 (some ⟨fb, 0, none⟩) [p0, p1, p2] Ls.length Ts2 (some (Fu.new 0)) * (pts gl (.cells #[pp p0, pp p1, pp p2] 43 (0, 0)) * Z))))))) from (s18.alloc (.cells #[str nx'] 9)).eq (sep_left_comm _ _ _)); have hrd3 := Lib.hid (Rd.new w18 #[str nx'] 9); clear s18)
                      | (refine wpl_append_g (by simp [Region.wanted, yielded, hne]) _ _ rfl tSS S20.out (some ⟨w18.heap.size, 0, none⟩) 1 1 [str nx'] rfl rfl hrd3.out (fun e => by cases e) (by simp) (by simp [Value.oneCell']) (by have := HLX.out; unfold maxLen; omega) (by have := HLX.out; omega) ?_; intro v19 w19 s19; have S21 := Lib.hid s19; clear s19 S20 hrd3)))
                    have e6 : sv Ls = List.take (0 * 1) [] ++ sv L' ++ [str nx'] := by rw [E5.out]; simp [sv]
                    have e7 : 0 + L'.length + 1 = Ls.length := by rw [E5.out]; simp
                    have s21 := S21.out
                    rw [← e6, e7] at s21
                    have hsl := St.sl _ s21
                    have hsl2 := St.sl _ (s21.eq (Q := row 9 1 (.slice a7 Ls.length c7) Ls.length (sv Ls) * (row 9 1 v19 Ls.length (sv Ls) * (pts w18.heap.size (.cells #[str nx'] 9) * (row 9 1 (.slice a11 L'.length c11) L'.length (sv L') * (X * (trx b5 (some ⟨fb, 0, none⟩) [p0, p1, p2] Ls.length Ts2 (some (Fu.new 0)) * (pts gl (.cells #[pp p0, pp p1, pp p2] 43 (0, 0)) * Z))))))) (by ac_rfl))
                    have qs := same_calls (.slice a7 Ls.length c7) v19 Ls Ls w19 hsl2 hsl
                    rw [decide_eq_true rfl] at qs
                    refine qs.mono ?_
                    rintro e w20 ⟨rfl, had⟩
                    have hZ : row 9 1 v19 Ls.length (sv Ls) * (pts w18.heap.size (.cells #[str nx'] 9) * (row 9 1 (.slice a11 L'.length c11) L'.length (sv L') * (row 9 1 (.slice a7 Ls.length c7) Ls.length (sv Ls) * (X * (trx b5 (some ⟨fb, 0, none⟩) [p0, p1, p2] Ls.length Ts2 (some (Fu.new 0)) * (pts gl (.cells #[pp p0, pp p1, pp p2] 43 (0, 0)) * Z)))))) =
                        (row 9 1 v19 Ls.length (sv Ls) * (pts w18.heap.size (.cells #[str nx'] 9) * (row 9 1 (.slice a11 L'.length c11) L'.length (sv L') * (X * (tro b5 p0 p1 p2 Ls.length * Z))))) * (row 9 1 (.slice a7 Ls.length c7) Ls.length (sv Ls) * (tps (some ⟨fb, 0, none⟩) [p0, p1, p2] Ts2 * (fz (.pointer (some ⟨fb, 0, none⟩)) (some (Fu.new 0)) * pts gl (.cells #[pp p0, pp p1, pp p2] 43 (0, 0))))) := by
                      rw [trx_eq]; ac_rfl
                    have S22 := Lib.hid ((s21.keep had).eq hZ)
                    clear s21 S21 S17 hsl hsl2 qs e6 e7 hZ had hne
                    go_wp2_with fail
                    go_roundw
                    case rel => exact ⟨1, Ls, [], Ts2, _, _, by omega, rfl, rfl, rfl, fun _ => rfl, Hok2.out, by have := Hjn2.out; omega, by have := Hlen2.out; omega, Hkp2.out, S22.out⟩
                    case measure => simp [intOf]
                · obtain rfl : j = 2 := by omega
                  have S12 := Lib.hid s12
                  clear s12 hkp hokL
                  go_wp2_with fail
                  refine (awake_calls _).mono ?_
                  rintro e w13 ⟨rfl, h2⟩
                  have HA := Lib.hid (S12.out.keep h2)
                  clear h2 S12
                  go_wp2_with fail
                  go_ret
                  exact ⟨rfl, HA.out.below⟩
end Go.Proofs.Ytkkkncchinejmaa.TrL
