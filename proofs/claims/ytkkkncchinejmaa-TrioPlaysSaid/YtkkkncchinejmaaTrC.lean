/- Package trio, walked: counts. No condition. -/
import Derived.Test.YtkkkncchinejmaaTrW
namespace Go.Proofs.Ytkkkncchinejmaa.TrW
open Go Go.RowKit Go.Proofs.Ytkkkncchinejmaa Go.Proofs.Ytkkkncchinejmaa.Sp Go.Proofs.Ytkkkncchinejmaa.Reg Go.Proofs.Ytkkkncchinejmaa.SlW Go.Proofs.Ytkkkncchinejmaa.Fus Go.Proofs.Ytkkkncchinejmaa.TrM Go.Proofs.Ytkkkncchinejmaa.TapW
theorem tBBB : SlT Try.prog 99 22 1 24 (.slice none 0 0) := ⟨Try.underlying99, info_parts (by kernel_rfl), rfl, by decide⟩
/-- Some rows of rows of bytes, each of one's own. -/
def obl : List (Value × List Value) → List (List (List UInt8)) → HP
  | z :: zs, l :: ls => pur (z.2.length = l.length) * (ob z.1 z.2 l * obl zs ls)
  | _, _ => emp
theorem obl_snoc : ∀ (zs : List (Value × List Value)) (ls : List (List (List UInt8))) (z : Value × List Value) (l : List (List UInt8)), zs.length = ls.length → obl (zs ++ [z]) (ls ++ [l]) = obl zs ls * (pur (z.2.length = l.length) * ob z.1 z.2 l)
  | [], [], z, l, _ => by show pur _ * (ob _ _ _ * emp) = emp * _; rw [sep_emp, emp_sep]
  | y :: zs, m :: ls, z, l, h => by
    show pur _ * (ob y.1 y.2 m * obl (zs ++ [z]) (ls ++ [l])) = pur _ * (ob y.1 y.2 m * obl zs ls) * _
    rw [obl_snoc zs ls z l (by simpa using h)]
    ac_rfl
theorem obl_at : ∀ (zs : List (Value × List Value)) (ls : List (List (List UInt8))) (i : Nat) (z : Value × List Value) (l : List (List UInt8)), zs[i]? = some z → ls[i]? = some l →
    obl zs ls = pur (z.2.length = l.length) * (ob z.1 z.2 l * obl (zs.eraseIdx i) (ls.eraseIdx i))
  | [], _, i, z, l, h, _ => by simp at h
  | _ :: _, [], i, z, l, _, h => by simp at h
  | y :: zs, m :: ls, 0, z, l, h1, h2 => by simp at h1 h2; subst h1; subst h2; rfl
  | y :: zs, m :: ls, i + 1, z, l, h1, h2 => by
    show pur _ * (ob y.1 y.2 m * obl zs ls) = _
    rw [obl_at zs ls i z l (by simpa using h1) (by simpa using h2)]
    show pur _ * (ob y.1 y.2 m * (pur _ * (ob z.1 z.2 l * _))) = pur _ * (ob z.1 z.2 l * (pur _ * (ob y.1 y.2 m * _)))
    ac_rfl
section
variable {B : Nat} {w0 : World} {R : HP}
theorem BRd.weak {X Y : HP} {v : Value} {vs : List Value} {l : List (List UInt8)} (h : BRd B w0 X v vs l) (hXY : ∀ w H, St B w0 w (H * Y) → ∃ H', St B w0 w (H' * X)) : BRd B w0 Y v vs l := by
  obtain ⟨A, c, e, h1, h2, h3, h4⟩ := h.val
  refine ⟨⟨A, c, e, h1, h2, h3, fun w H s => ?_⟩, h.len, fun w H s => ?_⟩
  · obtain ⟨H', s'⟩ := hXY w H s
    exact h4 w H' s'
  · obtain ⟨H', s'⟩ := hXY w H s
    exact h.at' w H' s'
theorem obl_brd {zs : List (Value × List Value)} {ls : List (List (List UInt8))} {i : Nat} {z : Value × List Value} {l : List (List UInt8)} {w : World} (h1 : zs[i]? = some z) (h2 : ls[i]? = some l) (s : St B w0 w (obl zs ls * R)) :
    BRd B w0 (obl zs ls) z.1 z.2 l := by
  have e := obl_at zs ls i z l h1 h2
  have s2 := s.eq (congrArg (· * R) e)
  have s3 := s2.eq (sep_assoc _ _ _)
  rw [St.pu] at s3
  obtain ⟨hl, s3⟩ := s3
  obtain ⟨a, c, hv, h3, h4, h5⟩ := ob_open (s3.eq (sep_assoc _ _ _))
  refine (ob_brd (B := B) (w0 := w0) hl hv h3 h4 h5).weak fun w H s => ⟨H * (pur (z.2.length = l.length) * obl (zs.eraseIdx i) (ls.eraseIdx i)), ?_⟩
  rw [e] at s
  exact s.eq (by ac_rfl)
/-- The records of each of some tapes. -/
def rcs (Ts : List Tp) (l : List Nat) : List (List (List UInt8)) := l.map fun i => spl (Ts.getD i Tp.new).b
/-- What counts gives. -/
def CntP (B : Nat) (w0 : World) (best : List (List UInt8)) (R : HP) (e : Ending) (w' : World) : Prop := ∃ X bv bvs, e = .returned bv ∧ BRd B w0 X bv bvs best ∧ St B w0 w' (X * R)
set_option maxRecDepth 100000 in
set_option maxHeartbeats 8000000 in
theorem counts_calls (x : Option Addr) (ps : List Nat) (Ts : List Tp) (l : List Nat) (v : Value) (w : World) (hl : ∀ i ∈ l, i < ps.length ∧ i < Ts.length ∧ (Ts.getD i Tp.new).gone = false) (hl3 : l.length ≤ 3)
    (s : St B w0 w (row 42 1 v l.length (pv ps l) * (tps x ps Ts * R))) :
    Calls Try.prog 43 #[v] w (CntP B w0 (cnt (rcs Ts l)) (row 42 1 v l.length (pv ps l) * (tps x ps Ts * R))) := by
  obtain ⟨a, c, rfl, h1, h2, -⟩ := s.rowSlice
  unfold maxLen at h2
  have S := Lib.hid s
  have Hl := Lib.hid hl
  clear s hl
  go_enter Try.func43, Try.ntmps43
  go_wp2_with fail
  go_loopw [3, 18] (fun v3 i wr => ∃ (k : Nat) (zs : List (Value × List Value)), k ≤ l.length ∧ i = .int .i64 k ∧ zs.length = k ∧ St B w0 wr (row 22 1 v3 k (zs.map (·.1)) * (obl zs (rcs Ts (l.take k)) * (row 42 1 (.slice a l.length c) l.length (pv ps l) * (tps x ps Ts * R))))) (fun _ i _ => l.length - (intOf i).toNat)
  case atStart =>
    refine ⟨0, [], Nat.zero_le _, rfl, rfl, ?_⟩
    show St B w0 w (row 22 1 _ 0 [] * (emp * _))
    rw [emp_sep]
    exact S.out.rowNil _ _
  case round =>
    obtain ⟨k, zs, hk, rfl, hzs, s1⟩ := hrel
    clear S
    obtain ⟨a3, c3, rfl, -⟩ := s1.rowSlice
    by_cases hlt : k < l.length
    · have s2 := s1.eq (Q := row 42 1 (.slice a l.length c) l.length (pv ps l) * (tps x ps Ts * (row 22 1 (.slice a3 k c3) k (zs.map (·.1)) * (obl zs (rcs Ts (l.take k)) * R)))) (by ac_rfl)
      obtain ⟨a', c', e', -, -, -, hg⟩ := s2.rowSlice
      cases e'
      obtain ⟨g, rfl, hcell⟩ := hg (by omega)
      have hck := hcell k (by omega)
      obtain ⟨hi1, hi2, hi3⟩ := Hl.out l[k] (List.getElem_mem hlt)
      have hpk : ps[l[k]]? = some (ps.getD l[k] 0) := by simp [List.getD, List.getElem?_eq_getElem hi1]
      have hTk : Ts[l[k]]? = some (Ts.getD l[k] Tp.new) := by simp [List.getD, List.getElem?_eq_getElem hi2]
      rw [show (pv ps l)[k]? = some (pp (ps.getD l[k] 0)) by simp [pv, hlt]] at hck
      have hrc : rcs Ts (l.take (k + 1)) = rcs Ts (l.take k) ++ [spl (Ts.getD l[k] Tp.new).b] := by
        rw [List.take_succ_eq_append_getElem hlt]; simp only [rcs, List.map_append, List.map_cons, List.map_nil]
      have s3 := s2.eq (Q := tps x ps Ts * (row 42 1 (.slice (some ⟨g, 0, none⟩) l.length c) l.length (pv ps l) * (row 22 1 (.slice a3 k c3) k (zs.map (·.1)) * (obl zs (rcs Ts (l.take k)) * R)))) (by ac_rfl)
      have s4 := tps_out hpk hTk s3
      have hback := fun (w' : World) (Y : HP) (s : St B w0 w' (tp (pp (ps.getD l[k] 0)) (.pointer x) (Ts.getD l[k] Tp.new) * (tps x (ps.eraseIdx l[k]) (Ts.eraseIdx l[k]) * Y))) => tps_back (x := x) hpk hTk s
      generalize hi : l[k] = i at *
      generalize hp : ps.getD i 0 = p at *
      generalize hT : Ts.getD i Tp.new = T at *
      have hTb : tBytes T = T.b := by unfold tBytes; rw [hi3]; rfl
      have hTe : tErr T = 0 := by unfold tErr; rw [hi3]; rfl
      have q := bytes_calls T (pp p) (.pointer x) wr s4
      rw [hTb, hTe] at q
      obtain ⟨-, -, -, hok, -⟩ := tp_open s4
      have hbl := hok.2
      have Q := Lib.hid q
      have HB := Lib.hid hback
      have HRC := Lib.hid hrc
      have Hi := Lib.hid hi
      have Hp := Lib.hid hp
      have HT := Lib.hid hT
      have Hzs := Lib.hid hzs
      clear hi hp hT hzs
      clear s1 s2 s3 s4 q hg hcell hi1 hi2 hi3 hpk hTk hback hTb hTe hok hrc
      go_wp2_with fail
      refine Q.out.mono ?_
      rintro e w1 ⟨a4, c4, rfl, s5⟩
      have Q2 := Lib.hid (split_calls (R := row 5 1 (.slice a4 T.b.length c4) T.b.length (bvs T.b) * _) a4 c4 T.b w1 (fun w' H s => (s.eq (sep_assoc _ _ _).symm).right.left |> fun _ => (St.eq (sep_left_comm _ _ _) s).bs) (by omega) s5)
      clear s5 Q
      go_wp2_with fail
      refine Q2.out.mono ?_
      rintro e w2 ⟨vk, vsk, rfl, hvl, s6⟩
      have s7 := HB.out w2 _ ((s6.eq (sep_left_comm _ _ _)).right.eq (Q := tp (pp p) (.pointer x) T * (tps x (ps.eraseIdx i) (Ts.eraseIdx i) * (ob vk vsk (spl T.b) * (row 42 1 (.slice (some ⟨g, 0, none⟩) l.length c) l.length (pv ps l) * (row 22 1 (.slice a3 k c3) k (zs.map (·.1)) * (obl zs (rcs Ts (l.take k)) * R)))))) (by ac_rfl))
      have S7 := Lib.hid ((s7.alloc (.cells #[vk] 22)).eq (Q := row 22 1 (.slice a3 k c3) k (zs.map (·.1)) * (pts w2.heap.size (.cells #[vk] 22) * (ob vk vsk (spl T.b) * (obl zs (rcs Ts (l.take k)) * (row 42 1 (.slice (some ⟨g, 0, none⟩) l.length c) l.length (pv ps l) * (tps x ps Ts * R)))))) (by ac_rfl))
      have hr := Lib.hid (Rd.new w2 #[vk] 22)
      obtain ⟨ak, ck, hvk, -⟩ := ob_open s6
      subst hvk
      have Hvl := Lib.hid hvl
      clear hvl
      clear s6 s7 Q2
      go_wp2_with (at_builtin; go_must (refine wpl_append rfl _ _ rfl tBBB S7.out (some ⟨w2.heap.size, 0, none⟩) 1 1 [.slice ak (spl T.b).length ck] rfl rfl hr.out (fun e => by cases e) (by simp) (by simp [Value.oneCell']) (by unfold maxLen; omega) (by omega) ?_); intro v5 w5 s5 hv5; have S5 := Lib.hid s5; clear s5 hv5 S7 hr)
      go_roundw
      case rel =>
        refine ⟨k + 1, zs ++ [(.slice ak (spl T.b).length ck, vsk)], by omega, by go_num, by simp [Hzs.out], ?_⟩
        rw [HRC.out, obl_snoc _ _ _ _ (by rw [Hzs.out]; simp [rcs]; omega), List.map_append]
        have s8 := (S5.out.eq (sep_left_comm _ _ _)).right
        have s9 : St B w0 w5 (pur (vsk.length = (spl T.b).length) * (row 22 1 v5 (k + 1) (zs.map (·.1) ++ [.slice ak (spl T.b).length ck]) * (ob (.slice ak (spl T.b).length ck) vsk (spl T.b) * (obl zs (rcs Ts (l.take k)) * (row 42 1 (.slice (some ⟨g, 0, none⟩) l.length c) l.length (pv ps l) * (tps x ps Ts * R)))))) := by
          rw [St.pu]; exact ⟨Hvl.out, s8⟩
        exact s9.eq (by show _ = row 22 1 v5 (k + 1) (zs.map (·.1) ++ [.slice ak (spl T.b).length ck]) * _; ac_rfl)
      case measure => simp [intOf]; omega
    · obtain rfl : k = l.length := by omega
      rw [List.take_length] at s1
      generalize hRC : rcs Ts l = L at *
      have hLl : L.length = l.length := by rw [← hRC]; simp [rcs]
      have hzl : (zs.map (·.1)).length = l.length := by rw [List.length_map, hzs]
      obtain ⟨-, h3a, h3b, -⟩ : True ∧ l.length ≤ c3 ∧ c3 ≤ maxLen ∧ True := by
        obtain ⟨a', c', e', h1, h2, -⟩ := s1.rowSlice
        cases e'
        exact ⟨trivial, h1, h2, trivial⟩
      unfold maxLen at h3b
      have S1 := Lib.hid s1
      have HRC := Lib.hid hRC
      have HLl := Lib.hid hLl
      have Hzl := Lib.hid hzl
      have Hzs := Lib.hid hzs
      clear hRC hLl hzl hzs
      generalize hn : l.length = n at *
      clear s1
      have Hn := Lib.hid hn
      clear hn
      go_wp2_with fail
      go_loopw [10, 39] (fun v10 i wr => ∃ (k : Nat) (best : List (List UInt8)) (bvs : List Value), k ≤ n ∧ i = .int .i64 k ∧ BRd B w0 (obl zs L) v10 bvs best ∧ cnt L = cntGo (L.take k) (L.drop k) best ∧ St B w0 wr (row 22 1 (.slice a3 n c3) n (zs.map (·.1)) * (obl zs L * (row 42 1 (.slice a n c) n (pv ps l) * (tps x ps Ts * R))))) (fun _ i _ => n - (intOf i).toNat)
      case atStart => exact ⟨0, [], [], Nat.zero_le _, rfl, BRd.nil, rfl, S1.out⟩
      case round =>
        obtain ⟨k, best, bvs, hk, rfl, hbr, hcn, s1⟩ := hrel
        clear S1
        have s2 := s1
        have hzr := fun (w' : World) (s : St B w0 w' (row 22 1 (.slice a3 n c3) n (zs.map (·.1)) * (obl zs L * (row 42 1 (.slice a n c) n (pv ps l) * (tps x ps Ts * R))))) (j : Nat) (hj : j < n) =>
          (show ∃ (z : Value × List Value) (la : List (List UInt8)), zs[j]? = some z ∧ L[j]? = some la ∧ BRd B w0 (obl zs L) z.1 z.2 la from by
            have h1 : j < zs.length := by rw [Hzs.out]; exact hj
            have h2 : j < L.length := by rw [HLl.out]; exact hj
            exact ⟨zs[j], L[j], List.getElem?_eq_getElem h1, List.getElem?_eq_getElem h2, obl_brd (List.getElem?_eq_getElem h1) (List.getElem?_eq_getElem h2) (s.eq (sep_left_comm _ _ _))⟩)
        obtain ⟨A10, c10, e10, -⟩ := hbr.val
        by_cases hlt : k < n
        · obtain ⟨a', c', e', -, -, -, hg⟩ := s2.rowSlice
          cases e'
          obtain ⟨g, rfl, -⟩ := hg (by omega)
          have hcl := fun (w' : World) (s : St B w0 w' (row 22 1 (.slice (some ⟨g, 0, none⟩) n c3) n (zs.map (·.1)) * (obl zs L * (row 42 1 (.slice a n c) n (pv ps l) * (tps x ps Ts * R))))) (j : Nat) (hj : j < n) (z : Value × List Value) (hz : zs[j]? = some z) =>
            (show w'.cell? ⟨g, j, none⟩ = some z.1 from by
              obtain ⟨a', c', e', -, -, -, hg⟩ := s.rowSlice
              cases e'
              obtain ⟨g', e, hc⟩ := hg (by omega)
              cases e
              rw [hc j (by omega), List.getElem?_map, hz]; rfl)
          obtain ⟨z, la, hz, hla, hbz⟩ := hzr wr s1 k hlt
          have hck := hcl wr s1 k hlt z hz
          have hsl : ∀ w, (Instr.sliceAt 99 (.slice (some ⟨g, 0, none⟩) n c3) none (some (.int .i64 (k : Int))) none).run Try.prog w = .ok (.slice (some ⟨g, 0, none⟩) k c3) w := fun w => by
            have q := run_slice_sl tBBB w (some ⟨g, 0, none⟩) n c3 none (some (.int .i64 (k : Int))) 0 k (.inl ⟨rfl, rfl⟩) (.inr ⟨_, rfl⟩) (Nat.zero_le _) (by omega)
            rw [q]; simp [Addr.add]
          have hdrop : L.drop k = la :: L.drop (k + 1) := by
            have h2 : k < L.length := by rw [HLl.out]; exact hlt
            rw [List.drop_eq_getElem_cons h2]
            congr 1
            simpa [List.getElem?_eq_getElem h2] using hla
          have htake : L.take (k + 1) = L.take k ++ [la] := by
            have h2 : k < L.length := by rw [HLl.out]; exact hlt
            rw [List.take_succ_eq_append_getElem h2]
            congr 2
            simpa [List.getElem?_eq_getElem h2] using hla
          have hcn2 : cnt L = cntGo (L.take (k + 1)) (L.drop (k + 1)) (cntIn la (L.take k) best) := by rw [hcn, hdrop, htake]; rfl
          have S1 := Lib.hid s1
          obtain ⟨Az, cz, ez, -⟩ := hbz.val
          obtain ⟨zv, zvs⟩ := z
          simp only at ez hck hbz
          subst ez
          have E := Lib.hid hcn2
          have Hbr := Lib.hid hbr
          have Hcl := Lib.hid hcl
          have Hzr := Lib.hid hzr
          have Hz := Lib.hid hz
          have Hla := Lib.hid hla
          have Hbz := Lib.hid hbz
          have Hsl := Lib.hid hsl
          clear hbr hcl hzr hz hla hbz hsl
          have hsl := Hsl.out
          clear s1 s2 hg hcn hdrop htake hcn2
          subst e10
          go_wp2_with fail
          clear hsl
          go_loopw [10, 48] (fun v10 i wr => ∃ (j : Nat) (best' : List (List UInt8)) (bvs' : List Value), j ≤ k ∧ i = .int .i64 j ∧ BRd B w0 (obl zs L) v10 bvs' best' ∧ cntIn la (L.take k) best = cntIn la ((L.take k).drop j) best' ∧ St B w0 wr (row 22 1 (.slice (some ⟨g, 0, none⟩) n c3) n (zs.map (·.1)) * (obl zs L * (row 42 1 (.slice a n c) n (pv ps l) * (tps x ps Ts * R))))) (fun _ i _ => k - (intOf i).toNat)
          case atStart => exact ⟨0, best, bvs, Nat.zero_le _, rfl, Hbr.out, rfl, S1.out⟩
          case round =>
            obtain ⟨j, best', bvs', hj, rfl, hbr', hci, s1⟩ := hrel
            clear S1
            obtain ⟨A11, c11, e11, -⟩ := hbr'.val
            by_cases hjt : j < k
            · have hs1 := s1
              obtain ⟨y, lb, hy, hlb, hby⟩ := Hzr.out _ s1 j (by omega)
              have hcj := Hcl.out _ s1 j (by omega) y hy
              obtain ⟨yv, yvs⟩ := y
              simp only at hcj hby
              obtain ⟨Ay, cy, ey, -⟩ := hby.val
              subst ey
              have so := s1.eq (sep_left_comm _ _ _)
              have q := alike_calls _ _ la lb _ (Hbz.out.bss (so.eq (sep_comm _ _))) (hby.bss (so.eq (sep_comm _ _)))
              have hdj : (L.take k).drop j = lb :: (L.take k).drop (j + 1) := by
                have h2 : j < (L.take k).length := by rw [List.length_take, HLl.out]; omega
                rw [List.drop_eq_getElem_cons h2]
                congr 1
                have h3 : (L.take k)[j]? = some lb := by rw [List.getElem?_take, if_pos hjt]; exact hlb
                simpa [List.getElem?_eq_getElem h2] using h3
              rw [hdj, cntIn_cons] at hci
              have hale := (al_le la lb).1
              have S1 := Lib.hid s1
              subst e11
              by_cases hbt : best'.length < al la lb
              · rw [if_pos hbt] at hci
                obtain ⟨A12, c12, e12, hc12, hsk, hbk⟩ := Hbz.out.take (al la lb) hale
                cases e12
                have hlk : (la.take (al la lb)).length = al la lb := by rw [List.length_take]; omega
                have E3 := Lib.hid (And.intro hci hlk)
                have Q := Lib.hid q
                have AM := Lib.hid (show al la lb ≤ 9223372036854775807 from by have := Hbz.out.val; obtain ⟨_, _, _, h1, h2, _⟩ := this; unfold maxLen at h2; omega)
                have Hbk := Lib.hid hbk
                have Hsk := Lib.hid hsk
                clear hbk hsk
                clear hbr' hci hdj hby so s1 hs1 hlk q hy hlb hale
                generalize hal : al la lb = m at *
                have AM2 := AM.out
                have hbt' : (best'.length : Int) < (m : Int) := by omega
                have Hal := Lib.hid hal
                clear hal
                go_wp2_with fail
                refine Q.out.mono ?_
                rintro e w7 ⟨he, hadd⟩
                rw [Hal.out] at he
                subst he
                have S2 := Lib.hid (S1.out.keep hadd)
                have hsk := Hsk.out
                clear S1 hadd Q
                go_wp2_with fail
                clear hsk
                go_roundw
                case rel => exact ⟨j + 1, _, _, by omega, by go_num, Hbk.out, E3.out.1, S2.out⟩
                case measure => simp [intOf]; omega
              · rw [if_neg hbt] at hci
                have E3 := Lib.hid hci
                have Q := Lib.hid q
                have AM := Lib.hid (show al la lb ≤ 9223372036854775807 from by have := Hbz.out.val; obtain ⟨_, _, _, h1, h2, _⟩ := this; unfold maxLen at h2; omega)
                have Hbr' := Lib.hid hbr'
                clear hbr' hci hdj hby so s1 hs1 q hy hlb hale
                generalize hal : al la lb = m at *
                have AM2 := AM.out
                have hbt' : ¬ (best'.length : Int) < (m : Int) := by omega
                have Hal := Lib.hid hal
                clear hal
                go_wp2_with fail
                refine Q.out.mono ?_
                rintro e w7 ⟨he, hadd⟩
                rw [Hal.out] at he
                subst he
                have S2 := Lib.hid (S1.out.keep hadd)
                clear S1 hadd Q
                go_wp2_with fail
                go_roundw
                case rel => exact ⟨j + 1, _, _, by omega, by go_num, Hbr'.out, E3.out, S2.out⟩
                case measure => simp [intOf]; omega
            · obtain rfl : j = k := by omega
              rw [List.drop_of_length_le (by rw [List.length_take]; omega)] at hci
              have hci : cntIn la (L.take j) best = best' := hci
              have S1 := Lib.hid s1
              have E3 := Lib.hid (show cnt L = cntGo (L.take (j + 1)) (L.drop (j + 1)) best' from by rw [← hci]; exact E.out)
              have Hbr' := Lib.hid hbr'
              subst e11
              clear hbr' hci s1
              go_wp2_with fail
              go_roundw
              case rel => exact ⟨j + 1, _, _, by omega, by go_num, Hbr'.out, E3.out, S1.out⟩
              case measure => simp [intOf]; omega
        · obtain rfl : k = n := by omega
          rw [List.drop_of_length_le (by rw [HLl.out]; omega), List.take_of_length_le (by rw [HLl.out]; omega)] at hcn
          have hcn : cnt L = best := hcn
          have S1 := Lib.hid s1
          subst e10
          have Hbr := Lib.hid hbr
          have Hcn := Lib.hid hcn
          clear hbr hcn
          clear s1 s2 hzr
          go_wp2_with fail
          go_ret
          exact ⟨obl zs L, _, bvs, rfl, by rw [Hcn.out]; exact Hbr.out, (S1.out.right)⟩
end
end Go.Proofs.Ytkkkncchinejmaa.TrW
