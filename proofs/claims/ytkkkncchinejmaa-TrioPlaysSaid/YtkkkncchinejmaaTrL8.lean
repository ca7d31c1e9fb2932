/- TrioPlays, walked. No condition. -/
import Derived.Test.YtkkkncchinejmaaTrL7
import Derived.Test.YtkkkncchinejmaaSlo
import Derived.Test.YtkkkncchinejmaaArr
import Derived.Deep.CutBlock
import Derived.Deep.DeepCutAuto
set_option linter.unusedSimpArgs false
set_option linter.unusedVariables false
namespace Go.Proofs.Ytkkkncchinejmaa.TrV
open Go Go.RowKit Go.Proofs.Ytkkkncchinejmaa Go.Proofs.Ytkkkncchinejmaa.Sp Go.Proofs.Ytkkkncchinejmaa.Reg Go.Proofs.Ytkkkncchinejmaa.SlW Go.Proofs.Ytkkkncchinejmaa.Fus Go.Proofs.Ytkkkncchinejmaa.TrM Go.Proofs.Ytkkkncchinejmaa.TapW Go.Proofs.Ytkkkncchinejmaa.TapR Go.Proofs.Ytkkkncchinejmaa.TrW Go.Proofs.Ytkkkncchinejmaa.Str Go.Proofs.Ytkkkncchinejmaa.TrR Go.Proofs.Ytkkkncchinejmaa.TrL
/-- A call. -/
structure Op where
  kind : Int
  n : Int
  b : List UInt8
  c0 : Int
  c1 : Int
  c2 : Int
/-- It has room in an int. -/
def sm (n : Int) : Prop := (Lit.int .i64 n).wf = true
theorem sm.le {n : Int} (h : sm n) : n ≤ 9223372036854775807 := by unfold sm at h; simpa [Lit.wf, IntKind.min, IntKind.max, IntKind.signed, IntKind.bits] using (by simpa [Lit.wf, IntKind.min, IntKind.max, IntKind.signed, IntKind.bits] using h : _ ∧ _).2
def ROp (w : World) (cs : List Value) (o : Op) : Prop := ∃ v, cs = [.int .i64 o.kind, .int .i64 o.n, v, .int .i64 o.c0, .int .i64 o.c1, .int .i64 o.c2] ∧ BS w v o.b ∧ sm o.c0 ∧ sm o.c1 ∧ sm o.c2
open Go.ChangeShapes Go.WideShapes in
theorem open_op {H : Type} {enc : TypeId × Value → H} {W : World} {base : Nat} {held : Bool} (fuel : Nat) (cs : List Value) (x : DataW H × List MemPlace) (hl : cs.length = 6)
    (h : DataW.trod enc Try.prog W base (fun _ => true) held fuel 67 cs = some x) : ∃ y, ROp W cs y := by
  obtain ⟨-, hf⟩ := open_fields Try.underlying67 (L := [(3, 0), (3, 1), (23, 2), (34, 3)]) (by kernel_rfl) h
  match cs, hl with
  | [u0, u1, u2, u3, u4, u5], _ =>
    obtain ⟨n0, y0, h0⟩ := hf 0 _ _ rfl
    obtain ⟨n1, y1, h1⟩ := hf 1 _ _ rfl
    obtain ⟨n2, y2, h2⟩ := hf 2 _ _ rfl
    obtain ⟨n3, y3, h3⟩ := hf 3 _ _ rfl
    rw [show Try.prog.cellsOf 3 = 1 by kernel_rfl] at h0 h1
    rw [show Try.prog.cellsOf 23 = 1 by kernel_rfl] at h2
    rw [show Try.prog.cellsOf 34 = 3 by kernel_rfl] at h3
    obtain ⟨m0, e0, -, g0⟩ := DataW.trod_int Try.underlying3 h0
    obtain ⟨m1, e1, -, g1⟩ := DataW.trod_int Try.underlying3 h1
    obtain ⟨v, bs, e2, g2⟩ := open_bytes Try.underlying23 Try.underlying5 (by kernel_rfl) h2
    obtain ⟨z0, z1, z2, n, -, k0, k1, k2⟩ := trod_array3 (c0 := u3) (c1 := u4) (c2 := u5) Try.underlying34 (by kernel_rfl) h3
    obtain ⟨i0, f0, -, w0⟩ := DataW.trod_int Try.underlying3 k0
    obtain ⟨i1, f1, -, w1⟩ := DataW.trod_int Try.underlying3 k1
    obtain ⟨i2, f2, -, w2⟩ := DataW.trod_int Try.underlying3 k2
    simp at e0 e1 e2 f0 f1 f2
    subst e0 e1 e2 f0 f1 f2
    exact ⟨⟨m0, m1, bs, i0, i1, i2⟩, _, rfl, g2, w0, w1, w2⟩
/-- The cells of a call. -/
def opC (kd n : Int) (ab : Option Addr) (m cb : Nat) (c0 c1 c2 : Int) : Array Value := #[.int .i64 kd, .int .i64 n, .slice ab m cb, .int .i64 c0, .int .i64 c1, .int .i64 c2]
/-- The round's own cells: the call's and the tapes'. -/
def HG (g g2 : Nat) (kd n : Int) (ab : Option Addr) (m cb : Nat) (c0 c1 c2 : Int) (p0 p1 p2 : Nat) : HP := pts g (.cells (opC kd n ab m cb c0 c1 c2) 67) * (pts g2 (.cells #[pp p0, pp p1, pp p2] 43) * emp)
theorem get3 (a b c : Nat) (k : Nat) (hk : k < 3) {w : World} {g : Nat} (h0 : w.cell? ⟨g, 0, none⟩ = some (pp a)) (h1 : w.cell? ⟨g, 1, none⟩ = some (pp b)) (h2 : w.cell? ⟨g, 2, none⟩ = some (pp c)) : w.cell? ⟨g, k, none⟩ = some (pp ([a, b, c].getD k 0)) := by
  obtain rfl | rfl | rfl : k = 0 ∨ k = 1 ∨ k = 2 := by omega
  · exact h0
  · exact h1
  · exact h2
/-- Where a round stands. -/
def Rel (B : Nat) (w0 : World) (fb rfb p0 p1 p2 q0 q1 q2 : Nat) (R : HP) (k : Nat) (v7 v8 : Value) (w : World) : Prop :=
  ∃ tb wb n Ts F, v7 = pp tb ∧ v8 = pp wb ∧ n ≤ 65536 + k ∧ Rok Ts F ∧ St B w0 w (Htt fb rfb tb wb p0 p1 p2 q0 q1 q2 n Ts F n Ts F R)
theorem new_fits {k : Int} (h : k ≤ 9223372036854775807) : (Fu.new k).left ≤ 9223372036854775807 := by
  show k.toNat ≤ _
  omega
theorem rok_new {F : Fu} (h : F.left ≤ 9223372036854775807) : Rok [Tp.new, Tp.new, Tp.new] F := by
  refine ⟨rfl, fun i => ?_, h⟩
  have e : ([Tp.new, Tp.new, Tp.new] : List Tp).getD i Tp.new = Tp.new := by
    match i with
    | 0 => rfl
    | 1 => rfl
    | 2 => rfl
    | _ + 3 => rfl
  rw [e]
  exact ⟨Nat.le_refl _, Nat.zero_le _⟩
/-- The document's new tapes. -/
def RnI (fv : Value) (b : Nat) (qs : List Nat) : HP := pts b (.cells #[(qs.map pp).getD 0 (.pointer none), (qs.map pp).getD 1 (.pointer none), (qs.map pp).getD 2 (.pointer none), .int .i64 0] 64 (0, 0)) * rtps fv qs (qs.map fun _ => Tp.new)
section
variable {B : Nat} {w0 w : World} {R : HP}
theorem rtps_snoc (fv : Value) : ∀ (ps : List Nat) (Ts : List Tp) (p : Nat) (T : Tp), ps.length = Ts.length → rtps fv (ps ++ [p]) (Ts ++ [T]) = rtps fv ps Ts * rtp p fv T
  | [], [], p, T, _ => by show rtp p fv T * emp = emp * rtp p fv T; rw [sep_emp, emp_sep]
  | q :: ps, U :: Ts, p, T, h => by
    show rtp q fv U * rtps fv (ps ++ [p]) (Ts ++ [T]) = rtp q fv U * rtps fv ps Ts * rtp p fv T
    rw [rtps_snoc fv ps Ts p T (by simpa using h), sep_assoc]
theorem RnI_cell {fv : Value} {b : Nat} {qs : List Nat} {Y : HP} (s : St B w0 w (Y * (RnI fv b qs * R))) (k : Nat) : (∃ v, k < 4 → w.cell? ⟨b, k, none⟩ = some v) ∧ w.frozen? ⟨b, k, none⟩ = false := by
  have s1 : St B w0 w (pts b (.cells #[(qs.map pp).getD 0 (.pointer none), (qs.map pp).getD 1 (.pointer none), (qs.map pp).getD 2 (.pointer none), .int .i64 0] 64 (0, 0)) * (rtps fv qs (qs.map fun _ => Tp.new) * (Y * R))) := s.eq (by unfold RnI; ac_rfl)
  refine ⟨?_, s1.free k⟩
  match k with
  | 0 => exact ⟨_, fun _ => s1.cell 0⟩
  | 1 => exact ⟨_, fun _ => s1.cell 1⟩
  | 2 => exact ⟨_, fun _ => s1.cell 2⟩
  | 3 => exact ⟨_, fun _ => s1.cell 3⟩
  | _ + 4 => exact ⟨.pointer none, fun h => by omega⟩
theorem RnI_set {fv : Value} {b a : Nat} {qs : List Nat} (hk : qs.length < 3) (s : St B w0 w (rtp a fv Tp.new * (RnI fv b qs * R))) : St B w0 (w.setCell ⟨b, qs.length, none⟩ (pp a)) (RnI fv b (qs ++ [a]) * R) := by
  have s1 : St B w0 w (pts b (.cells #[(qs.map pp).getD 0 (.pointer none), (qs.map pp).getD 1 (.pointer none), (qs.map pp).getD 2 (.pointer none), .int .i64 0] 64 (0, 0)) * (rtps fv qs (qs.map fun _ => Tp.new) * (rtp a fv Tp.new * R))) := s.eq (by unfold RnI; ac_rfl)
  have s2 := s1.set qs.length (pp a)
  rw [cells3 qs a hk] at s2
  refine s2.eq ?_
  unfold RnI
  rw [List.map_append (f := fun _ => Tp.new), List.map_singleton, rtps_snoc fv qs _ a Tp.new (by simp)]
  ac_rfl
end
/-- What is owned while the document's tapes are made. -/
def RnJ (B : Nat) (w0 : World) (fv : Value) (bk : Nat) (qs : List Nat) (R : HP) (j : Nat) (vs : Nat → Value) (w : World) : Prop := match j with
  | 0 => St B w0 w (RnI fv bk qs * R)
  | 1 => ∃ a, vs 0 = pp a ∧ St B w0 w (rtp a fv Tp.new * (RnI fv bk qs * R))
  | _ => ∃ a, vs 0 = pp a ∧ St B w0 w (RnI fv bk (qs ++ [a]) * R)
theorem bss_nil (w : World) : BSS w (.slice none 0 0) [] := ⟨none, 0, [], rfl, .inl rfl, rfl, Nat.le_refl _, Nat.zero_le _, fun _ => rfl, fun i h => absurd h (Nat.not_lt_zero _)⟩
theorem hg_drop {B : Nat} {w0 w : World} {fb rfb tb wb p0 p1 p2 q0 q1 q2 n n2 : Nat} {Ts Ts2 : List Tp} {F F2 : Fu} {g g2 : Nat} {kd nn : Int} {ab : Option Addr} {m cb : Nat} {c0 c1 c2 : Int} (s : St B w0 w (Htt fb rfb tb wb p0 p1 p2 q0 q1 q2 n Ts F n2 Ts2 F2 (HG g g2 kd nn ab m cb c0 c1 c2 p0 p1 p2))) : St B w0 w (Htt fb rfb tb wb p0 p1 p2 q0 q1 q2 n Ts F n2 Ts2 F2 (pts g2 (.cells #[pp p0, pp p1, pp p2] 43) * emp)) := by
  unfold HG at s
  exact (ht_y s).right
set_option maxRecDepth 100000 in
set_option maxHeartbeats 40000000 in
theorem plays_walk (fuse : Int) (a : Option Addr) (ca : Nat) (l : List Op) (w0 : World) (wf : (Lit.int .i64 fuse).wf = true) (hl : Elems ROp 6 w0 (.slice a l.length ca) l) :
    Calls Try.prog 9 #[.int .i64 fuse, .slice a l.length ca] w0 fun e w' => e = .returned (.bool true) ∧ Below w0.heap.size w0 w' := by
  have hfu : fuse ≤ 9223372036854775807 := sm.le wf
  have hlm : l.length ≤ 9223372036854775807 := by obtain ⟨_, _, _, h1, h2, _⟩ := hl; unfold maxLen at h2; omega
  have S := Lib.hid (St.init w0)
  clear wf
  have Hl := Lib.hid hl
  clear hl
  go_enter Try.func9, Try.ntmps9
  go_wp2_with fail
  refine (newFuse_calls fuse _ hfu S.out).mono ?_
  rintro e w1 ⟨p, rfl, s1⟩
  obtain ⟨fb, rfl, -, -⟩ := fz_some s1
  have S1 := Lib.hid s1
  clear s1
  clear S
  go_wp2_with fail
  refine (rnewFuse_calls fuse _ S1.out).mono ?_
  rintro e w2 ⟨rfb, rfl, s2⟩
  have S2 := Lib.hid s2
  clear s2
  clear S1
  go_wp2_with fail
  refine (newt_calls (some ⟨fb, 0, none⟩) _ S2.out).mono ?_
  rintro e w3 ⟨tb, p0, p1, p2, rfl, s3⟩
  have s4 := s3.alloc (.cells #[.pointer none, .pointer none, .pointer none, .int .i64 0] 64)
  generalize hF : Fu.new fuse = F0 at *
  have hFl : F0.left ≤ 9223372036854775807 := by rw [← hF]; exact new_fits hfu
  have HFL := Lib.hid hFl
  generalize hwb : w3.heap.size = wb at *
  have s5 : St w0.heap.size w0 _ (RnI (.pointer (some ⟨rfb, 0, none⟩)) wb [] * (rfz rfb F0 * trx tb (some ⟨fb, 0, none⟩) [p0, p1, p2] 0 [Tp.new, Tp.new, Tp.new] (some F0))) := s4.eq (by
    unfold RnI; rw [trx_eq]
    show pts wb _ * (tro tb p0 p1 p2 0 * (tps _ _ _ * (rfz rfb F0 * (fz _ (some F0) * emp)))) = pts wb _ * emp * _
    rw [sep_emp, sep_emp]; ac_rfl)
  have S5 := Lib.hid s5
  have Hwb := Lib.hid hwb
  clear hwb
  clear s3 s4 s5 S2 hF hFl hfu
  go_wp2_with fail
  go_loopw [9] (fun i wr => ∃ (qs : List Nat), qs.length ≤ 3 ∧ i = .int .i64 qs.length ∧ St w0.heap.size w0 wr (RnI (.pointer (some ⟨rfb, 0, none⟩)) wb qs * (rfz rfb F0 * trx tb (some ⟨fb, 0, none⟩) [p0, p1, p2] 0 [Tp.new, Tp.new, Tp.new] (some F0)))) (fun i _ => 3 - (intOf i).toNat)
  case atStart => exact ⟨[], Nat.zero_le _, rfl, S5.out⟩
  case round =>
    obtain ⟨qs, hk, rfl, s1⟩ := hrel
    rw [Hwb.out]
    clear S5
    by_cases hlt : qs.length < 3
    · skip
      go_wp2_with fail
      refine wp_region_rv [39] (RnJ w0.heap.size w0 (.pointer (some ⟨rfb, 0, none⟩)) wb qs (rfz rfb F0 * trx tb (some ⟨fb, 0, none⟩) [p0, p1, p2] 0 [Tp.new, Tp.new, Tp.new] (some F0))) [3, 7] mixed (by kernel_rfl) (by kernel_rfl) rfl (fun _ => s1.drew) ?_
      have hl3 : (qs.length : Int) < 3 := by omega
      refine RXl.exact (.pointer (some ⟨wb, 0, none⟩)) rfl rfl rfl rfl rfl (fun _ _ _ _ _ => rfl) ?_
      refine RXl.exact (.int .i64 qs.length) rfl rfl rfl rfl rfl (fun _ _ _ _ _ => rfl) ?_
      refine RXl.exact (.pointer (some ⟨rfb, 0, none⟩)) rfl rfl rfl rfl rfl (fun _ _ _ _ _ => rfl) ?_
      refine RXl.callV 0 39 rfl rfl rfl (Nat.le_of_ble_eq_true rfl) _ [.tmp 38] _ rfl rfl rfl rfl rfl (fun ρ vs w _ hJ hag => ⟨[.pointer (some ⟨rfb, 0, none⟩)], by simp [hag.ex 38 _ rfl rfl rfl], rfl, (rnewTape_calls (some ⟨rfb, 0, none⟩) w hJ).mono (by rintro e w' ⟨a, rfl, s⟩; exact ⟨_, rfl, a, by simp [updv], s⟩)⟩) ?_
      refine RXl.exact (.pointer (some ⟨wb, 0, none⟩)) rfl rfl rfl rfl rfl (fun j τ w' hj hJ => (by obtain ⟨vs, hv, hJ⟩ := hJ; exact (by simp [rho, upd, Spec.val, execOp, go_sem]))) ?_
      refine RXl.exact (.pointer (some ⟨wb, 0, none⟩)) rfl rfl rfl rfl rfl (fun j τ w' hj hJ => (by obtain ⟨vs, hv, hJ⟩ := hJ; exact (by simp [rho, upd, Spec.val, execOp, go_sem]))) ?_
      refine RXl.exact (.pointer (some ⟨wb, qs.length, none⟩)) rfl rfl rfl rfl rfl (fun j τ w' hj hJ => (by obtain ⟨vs, hv, hJ⟩ := hJ; exact (by simp [rho, upd, Spec.val, execOp, go_sem, hl3]))) ?_
      refine RXl.effS 1 rfl rfl rfl rfl rfl rfl (fun ρ vs w hv hJ hag => by obtain ⟨a, e, s⟩ := hJ; have e39 := (hv 0 39 (by decide) rfl).trans e; obtain ⟨⟨v, hc⟩, hf⟩ := RnI_cell s qs.length; exact ⟨_, exec_store rfl (hag.ex 42 _ rfl rfl rfl) e39 rfl (by kernel_rfl) (hc (by omega)) hf, a, e, RnI_set hlt s⟩) ?_
      refine RXl.nilV _ (AgrL.upd _ _ (AgrL.upd _ _ (AgrL.upd _ _ (AgrL.unk 39 _ rfl (AgrL.upd _ _ (AgrL.upd _ _ (AgrL.upd _ _ (AgrL.base _)))))))) (by decide) (by decide) fun vs w8 hJ => ?_
      simp only [puts, Act.put, List.setIfInBounds_toArray, List.set_cons_succ, List.set_cons_zero]
      obtain ⟨a8, e8, s8⟩ := hJ
      rw [e8]
      have S8 := Lib.hid s8
      clear s8 s1 e8
      go_wp2_with fail
      go_roundw
      case rel => exact ⟨qs ++ [a8], by simp; omega, by simp, S8.out⟩
      case measure => simp [intOf]; omega
    · obtain ⟨q0, q1, q2, rfl⟩ : ∃ q0 q1 q2, qs = [q0, q1, q2] := by
        match qs, hk, hlt with
        | [], _, h => exact absurd (by decide) h
        | [_], _, h => exact absurd (by simp) h
        | [_, _], _, h => exact absurd (by simp) h
        | [a, b, c], _, _ => exact ⟨a, b, c, rfl⟩
        | _ :: _ :: _ :: _ :: _, h, _ => exact absurd h (by simp)
      have S1 := Lib.hid (show St w0.heap.size w0 wr (Htt fb rfb tb wb p0 p1 p2 q0 q1 q2 0 [Tp.new, Tp.new, Tp.new] F0 0 [Tp.new, Tp.new, Tp.new] F0 emp) from s1.eq (by
        unfold RnI Htt Hr
        show rtro wb q0 q1 q2 0 * rtps _ [q0, q1, q2] [Tp.new, Tp.new, Tp.new] * (rfz rfb F0 * _) = _ * (rtro wb q0 q1 q2 0 * (_ * (rfz rfb F0 * emp)))
        rw [sep_emp]; ac_rfl))
      clear s1 hk hlt
      go_wp2_with fail
      refine (awake_calls _).mono ?_
      rintro e w9 ⟨rfl, hadd⟩
      have S9 := Lib.hid (S1.out.keep hadd)
      clear hadd S1
      go_wp2_with fail
      go_loopw [7, 8, 10] (fun v7 v8 i wr => ∃ k : Nat, k ≤ l.length ∧ k ≤ 50 ∧ i = .int .i64 k ∧ Rel w0.heap.size w0 fb rfb p0 p1 p2 q0 q1 q2 emp k v7 v8 wr) (fun _ _ i _ => 50 - (intOf i).toNat)
      case atStart => exact ⟨0, Nat.zero_le _, Nat.zero_le _, rfl, tb, wb, 0, _, F0, rfl, rfl, Nat.zero_le _, rok_new HFL.out, S9.out⟩
      case round =>
        obtain ⟨j, hj1, hj2, rfl, tb, wb, nr, Ts, F, rfl, rfl, hnr, hok, s7⟩ := hrel
        clear S9 HFL
        have S7 := Lib.hid s7
        have HOK := Lib.hid hok
        have HNR := Lib.hid (show nr ≤ 65536 + j ∧ j ≤ 50 from ⟨hnr, hj2⟩)
        clear hnr hok
        by_cases hlt : j < l.length ∧ j < 50
        · obtain ⟨hlt2, hlt3⟩ := hlt
          have hlt4 : (j : Int) < (l.length : Int) := by omega
          have hlt5 : (j : Int) < 50 := by omega
          obtain ⟨b0, off, cs, rfl, hcs, ⟨vb, rfl, hb, hc0, hc1, hc2⟩, hcell⟩ := Hl.out.arg j hlt2
          have x0 := hcell _ _ s7 0 (by omega)
          have x1 := hcell _ _ s7 1 (by omega)
          have x2 := hcell _ _ s7 2 (by omega)
          have x3 := hcell _ _ s7 3 (by omega)
          have x4 := hcell _ _ s7 4 (by omega)
          have x5 := hcell _ _ s7 5 (by omega)
          simp at x0 x1 x2 x3 x4 x5
          obtain ⟨ab, cb, rfl, -⟩ := id hb
          generalize l[j] = o at *
          obtain ⟨kd, n, b, c0, c1, c2⟩ := o
          simp only at x0 x1 x2 x3 x4 x5 hb hc0 hc1 hc2
          have Hb := Lib.hid hb
          have HC3 := Lib.hid (And.intro hc0.le (And.intro hc1.le hc2.le))
          clear hb hcell hc0 hc1 hc2 s7
          by_cases hlen : 300 < b.length
          · have hlen' : (300 : Int) < (b.length : Int) := by omega
            clear hlen
            go_wp2_with fail
            go_ret
            exact ⟨rfl, (S7.out.alloc _).below⟩
          · have hlen' : (b.length : Int) ≤ 300 := by omega
            have HBL := Lib.hid (show b.length ≤ 300 by omega)
            clear hlen
            have s8 : St w0.heap.size w0 (wr.alloc (.cells #[.int .i64 kd, .int .i64 n, .slice ab b.length cb, .int .i64 c0, .int .i64 c1, .int .i64 c2] 67)) (Htt fb rfb tb wb p0 p1 p2 q0 q1 q2 nr Ts F nr Ts F (pts wr.heap.size (.cells (opC kd n ab b.length cb c0 c1 c2) 67) * emp)) := ht_x (S7.out.alloc (.cells (opC kd n ab b.length cb c0 c1 c2) 67))
            have Q8 := Lib.hid (ht_tapes _ s8)
            clear s8
            go_upto_block 4 with fail
            refine Q8.out.mono ?_
            rintro e w8 ⟨rfl, s8⟩
            have s9 : St w0.heap.size w0 (w8.alloc (.cells #[pp p0, pp p1, pp p2] 43)) (Htt fb rfb tb wb p0 p1 p2 q0 q1 q2 nr Ts F nr Ts F (HG wr.heap.size w8.heap.size kd n ab b.length cb c0 c1 c2 p0 p1 p2)) := (ht_x (s8.alloc (.cells #[pp p0, pp p1, pp p2] 43))).eq (by unfold HG; rw [sep_left_comm])
            clear s8 Q8
            go_upto_region 19 with fail
            generalize w8.alloc _ = w9' at s9 ⊢
            generalize wr.heap.size = g at s9 ⊢
            generalize w8.heap.size = g2 at s9 ⊢
            have CG := Lib.hid (show ∀ w' tb' wb' n1 T1 F1 n2 T2 F2, St w0.heap.size w0 w' (Htt fb rfb tb' wb' p0 p1 p2 q0 q1 q2 n1 T1 F1 n2 T2 F2 (HG g g2 kd n ab b.length cb c0 c1 c2 p0 p1 p2)) → w'.cell? ⟨g, 0, none⟩ = some (.int .i64 kd) ∧ w'.cell? ⟨g, 1, none⟩ = some (.int .i64 n) ∧ w'.cell? ⟨g, 2, none⟩ = some (.slice ab b.length cb) ∧ w'.cell? ⟨g, 3, none⟩ = some (.int .i64 c0) ∧ w'.cell? ⟨g, 4, none⟩ = some (.int .i64 c1) ∧ w'.cell? ⟨g, 5, none⟩ = some (.int .i64 c2) from fun w' tb' wb' n1 T1 F1 n2 T2 F2 s => by unfold HG at s; have q := ht_y s; exact ⟨q.cell 0, q.cell 1, q.cell 2, q.cell 3, q.cell 4, q.cell 5⟩)
            have CT := Lib.hid (show ∀ w' tb' wb' n1 T1 F1 n2 T2 F2, St w0.heap.size w0 w' (Htt fb rfb tb' wb' p0 p1 p2 q0 q1 q2 n1 T1 F1 n2 T2 F2 (HG g g2 kd n ab b.length cb c0 c1 c2 p0 p1 p2)) → ∀ k, k < 3 → w'.cell? ⟨g2, k, none⟩ = some (pp ([p0, p1, p2].getD k 0)) from fun w' tb' wb' n1 T1 F1 n2 T2 F2 s k hk => by unfold HG at s; have q := ht_y (ht_y s).right; exact get3 p0 p1 p2 k hk (q.cell 0) (q.cell 1) (q.cell 2))
            have S8 := Lib.hid s9
            clear s9 x0 x1 x2 x3 x4 x5 S7
            have hg8 := CG.out _ _ _ _ _ _ _ _ _ S8.out
            obtain ⟨x0, x1, x2, x3, x4, x5⟩ := hg8
            clear hcs
            generalize w9' = w8 at *
            go_cut [13] from 86 to 93 (fun v13 wx => v13 = .bool (decide (0 ≤ n ∧ n < 3)) ∧ w8 = wx)
            case first =>
              by_cases h1 : 0 ≤ n
              · by_cases h2 : n < 3
                · skip
                  go_wp2_with fail
                  go_meet
                  exact ⟨by (try simp) <;> omega, rfl⟩
                · skip
                  go_wp2_with fail
                  go_meet
                  exact ⟨by (try simp) <;> omega, rfl⟩
              · skip
                go_wp2_with fail
                go_meet
                exact ⟨by (try simp) <;> omega, rfl⟩
            case rest =>
              obtain ⟨rfl, rfl⟩ := hcut
              obtain ⟨bi, hbi⟩ : ∃ bi, decide (0 ≤ n ∧ n < 3) = bi := ⟨_, rfl⟩
              rw [hbi]
              have HBI := Lib.hid hbi
              clear hbi
              go_upto_block 4 with fail
              go_cut [7, 8] from 94 to 225 (fun v7 v8 wx => Rel w0.heap.size w0 fb rfb p0 p1 p2 q0 q1 q2 (pts g2 (.cells #[pp p0, pp p1, pp p2] 43) * emp) (j + 1) v7 v8 wx)
              case first =>
                by_cases k0 : kd = 0
                · subst k0
                  as_aux_lemma =>
                    obtain ⟨e1, F1, Ts1, n1, ht, hok1, hn1⟩ := trApp_keep HOK.out nr b
                    have HT := Lib.hid ht
                    have HK := Lib.hid (And.intro hok1 hn1)
                    clear ht hok1 hn1
                    go_wp2_with fail
                    refine wp_region_rx (fun j w => St w0.heap.size w0 w (Htt fb rfb tb wb p0 p1 p2 q0 q1 q2 (if j = 0 then nr else n1) (if j = 0 then Ts else Ts1) (if j = 0 then F else F1) (if j ≤ 1 then nr else n1) (if j ≤ 1 then Ts else Ts1) (if j ≤ 1 then F else F1) (HG g g2 0 n ab b.length cb c0 c1 c2 p0 p1 p2))) [3, 8] mixed (by kernel_rfl) (by kernel_rfl) S8.out.drew ?_
                    refine RXl.exact (.pointer (some ⟨tb, 0, none⟩)) rfl rfl rfl rfl rfl (fun _ _ _ _ _ => rfl) ?_
                    refine RXl.exact (.pointer (some ⟨g, 2, none⟩)) rfl rfl rfl rfl rfl (fun j τ w' hj hJ => by simp [rho, upd, Spec.val, execOp, go_sem]) ?_
                    refine RXl.exact (.slice ab b.length cb) rfl rfl rfl rfl rfl (fun j τ w' hj hJ => by have c := (CG.out w' _ _ _ _ _ _ _ _ hJ).2.2.1; simp [rho, upd, Spec.val, execOp, go_sem, c]) ?_
                    refine RXl.callj 0 (.int .i64 e1) _ [.pointer (some ⟨tb, 0, none⟩), .slice ab b.length cb] [.tmp 111, .tmp 113] _ rfl rfl rfl rfl rfl rfl (fun _ => rfl) (fun w' hJ => ht_append w' HT.out HOK.out.len (by have := HNR.out; omega) (by have := HBL.out; omega) (fun R => reads_arg R Hb.out) (show St w0.heap.size w0 w' (Htt fb rfb tb wb p0 p1 p2 q0 q1 q2 nr Ts F nr Ts F _) from hJ)) ?_
                    refine RXl.exact (.pointer (some ⟨wb, 0, none⟩)) rfl rfl rfl rfl rfl (fun _ _ _ _ _ => rfl) ?_
                    refine RXl.exact (.pointer (some ⟨g, 2, none⟩)) rfl rfl rfl rfl rfl (fun j τ w' hj hJ => by simp [rho, upd, Spec.val, execOp, go_sem]) ?_
                    refine RXl.exact (.slice ab b.length cb) rfl rfl rfl rfl rfl (fun j τ w' hj hJ => by have c := (CG.out w' _ _ _ _ _ _ _ _ hJ).2.2.1; simp [rho, upd, Spec.val, execOp, go_sem, c]) ?_
                    refine RXl.exact (str b) rfl rfl rfl rfl rfl (fun j τ w' hj hJ => exec_convert rfl (run_str Try.underlying23 Try.underlying5 Try.underlying9 (Hb.out.st rfl hJ))) ?_
                    refine RXl.callj 1 (.int .i64 e1) _ [.pointer (some ⟨wb, 0, none⟩), str b] [.tmp 115, .tmp 118] _ rfl rfl rfl rfl rfl rfl (fun _ => rfl) (fun w' hJ => ht_rappend w' HT.out HOK.out (by have := HNR.out; omega) (by have := HBL.out; omega) (show St w0.heap.size w0 w' (Htt fb rfb tb wb p0 p1 p2 q0 q1 q2 n1 Ts1 F1 nr Ts F _) from hJ)) ?_
                    refine RXl.exact (.bool false) rfl rfl rfl rfl rfl (fun j τ w' hj hJ => by simp [rho, upd, Spec.val, execOp, go_sem]) ?_
                    refine RXl.nilx _ (Agr.upd _ _ (Agr.upd _ _ (Agr.upd _ _ (Agr.upd _ _ (Agr.upd _ _ (Agr.upd _ _ (Agr.upd _ _ (Agr.upd _ _ (Agr.upd _ _ (Agr.upd _ _ (Agr.base _))))))))))) fun w9 hJ => ?_
                    obtain ⟨_, hJ⟩ := hJ
                    simp only [Act.put, List.setIfInBounds_toArray, List.set_cons_succ, List.set_cons_zero]
                    have S9 := Lib.hid (show St w0.heap.size w0 w9 (Htt fb rfb tb wb p0 p1 p2 q0 q1 q2 n1 Ts1 F1 n1 Ts1 F1 (HG g g2 0 n ab b.length cb c0 c1 c2 p0 p1 p2)) from hJ)
                    clear hJ S8 HT
                    go_wp2_with fail
                    go_meet
                    exact ⟨tb, wb, n1, Ts1, F1, rfl, rfl, by have := HK.out.2; have := HNR.out; omega, HK.out.1, hg_drop S9.out⟩
                · by_cases k1 : kd = 1
                  · subst k1
                    clear k0
                    as_aux_lemma =>
                      by_cases hin : 0 ≤ n ∧ n < 3
                      · obtain ⟨k, rfl⟩ : ∃ k : Nat, n = k := ⟨n.toNat, by omega⟩
                        have hk : k < 3 := by omega
                        have hd : decide (0 ≤ (k : Int) ∧ (k : Int) < 3) = true := decide_eq_true hin
                        rw [HBI.out] at hd
                        subst hd
                        have hkI : (k : Int) < 3 := by omega
                        have qt1 := (CT.out _ _ _ _ _ _ _ _ _ S8.out) k hk
                        have Q := Lib.hid (ht_fail w8 k hk HOK.out.len S8.out)
                        have HRF := Lib.hid (fun w' Tz Fz (s : St w0.heap.size w0 w' (Htt fb rfb tb wb p0 p1 p2 q0 q1 q2 nr Tz Fz nr Ts F (HG g g2 1 k ab b.length cb c0 c1 c2 p0 p1 p2))) => And.intro (ht_rc k hk HOK.out.len s) (ht_rfail k hk HOK.out.len s))
                        generalize [p0, p1, p2].getD k 0 = pk at *
                        generalize [q0, q1, q2].getD k 0 = qk at *
                        have HK1 := Lib.hid (HOK.out.fail k hk)
                        clear hin
                        go_wp2_with fail
                        refine Q.out.mono ?_
                        rintro e w9 ⟨rfl, s9⟩
                        obtain ⟨⟨d1, d2, d3, -⟩, f9, t9⟩ := HRF.out _ _ _ s9
                        obtain ⟨y0, y1, y2, y3, y4, y5⟩ := CG.out _ _ _ _ _ _ _ _ _ s9
                        have S9 := Lib.hid s9
                        have T9 := Lib.hid t9
                        clear s9 t9 Q S8 qt1 x0 x1 x2 x3 x4 x5
                        go_wp2_with fail
                        refine wp_region_rx (fun j w => St w0.heap.size w0 w (Htt fb rfb tb wb p0 p1 p2 q0 q1 q2 nr (Ts.set k ⟨(Ts.getD k Tp.new).b, (Ts.getD k Tp.new).loose, true⟩) F nr (if j = 0 then Ts else Ts.set k ⟨(Ts.getD k Tp.new).b, (Ts.getD k Tp.new).loose, true⟩) F (HG g g2 1 k ab b.length cb c0 c1 c2 p0 p1 p2))) [9] mixed (by kernel_rfl) (by kernel_rfl) S9.out.drew ?_
                        refine RXl.exact (.pointer (some ⟨wb, 0, none⟩)) rfl rfl rfl rfl rfl (fun _ _ _ _ _ => rfl) ?_
                        refine RXl.exact (.pointer (some ⟨g, 1, none⟩)) rfl rfl rfl rfl rfl (fun j τ w' hj hJ => by simp [rho, upd, Spec.val, execOp, go_sem]) ?_
                        refine RXl.exactB 0 9 rfl (by kernel_rfl) (.int .i64 ↑k) rfl rfl rfl rfl rfl (fun j τ w' hj hJ => by have c := (CG.out w' _ _ _ _ _ _ _ _ hJ).2.1; simp [rho, upd, Spec.val, execOp, go_sem, c]) ?_
                        refine RXl.exact (.pointer (some ⟨wb, 0, none⟩)) rfl rfl rfl rfl rfl (fun j τ w' hj hJ => by simp [rho, upd, Spec.val, execOp, go_sem]) ?_
                        refine RXl.exact (.pointer (some ⟨wb, 0, none⟩)) rfl rfl rfl rfl rfl (fun j τ w' hj hJ => by simp [rho, upd, Spec.val, execOp, go_sem]) ?_
                        refine RXl.exact (.pointer (some ⟨wb, k, none⟩)) rfl rfl rfl rfl rfl (fun j τ w' hj hJ => by simp [rho, upd, Spec.val, execOp, go_sem, hkI]) ?_
                        refine RXl.exactB 0 9 rfl (by kernel_rfl) (.pointer (some ⟨qk, 0, none⟩)) rfl rfl rfl rfl rfl (fun j τ w' hj hJ => by (obtain rfl : j = 0 := by omega); have c := (HRF.out w' _ _ hJ).1.1; simp [rho, upd, Spec.val, execOp, go_sem, c]) ?_
                        refine RXl.exact (.pointer (some ⟨qk, 0, none⟩)) rfl rfl rfl rfl rfl (fun j τ w' hj hJ => by simp [rho, upd, Spec.val, execOp, go_sem]) ?_
                        refine RXl.exact (.pointer (some ⟨qk, 2, none⟩)) rfl rfl rfl rfl rfl (fun j τ w' hj hJ => by simp [rho, upd, Spec.val, execOp, go_sem]) ?_
                        refine RXl.effj 0 rfl rfl rfl rfl rfl rfl (fun w' hJ => (let z := HRF.out w' _ _ hJ; ⟨_, exec_store rfl rfl rfl rfl (by kernel_rfl) z.1.2.2.1 z.2.1, z.2.2⟩)) ?_
                        refine RXl.nilx _ (Agr.upd _ _ (Agr.upd _ _ (Agr.upd _ _ (Agr.upd _ _ (Agr.upd _ _ (Agr.upd _ _ (Agr.upd _ _ (Agr.upd _ _ (Agr.upd _ _ (Agr.base _)))))))))) fun w10 hJ => ?_
                        obtain ⟨_, hJ⟩ := hJ
                        simp only [Act.put, List.setIfInBounds_toArray, List.set_cons_succ, List.set_cons_zero]
                        have S10 := Lib.hid (show St w0.heap.size w0 w10 (Htt fb rfb tb wb p0 p1 p2 q0 q1 q2 nr (Ts.set k ⟨(Ts.getD k Tp.new).b, (Ts.getD k Tp.new).loose, true⟩) F nr (Ts.set k ⟨(Ts.getD k Tp.new).b, (Ts.getD k Tp.new).loose, true⟩) F (HG g g2 1 k ab b.length cb c0 c1 c2 p0 p1 p2)) from hJ)
                        clear hJ S9 T9 HRF
                        go_wp2_with fail
                        go_meet
                        exact ⟨tb, wb, nr, _, F, rfl, rfl, by have := HNR.out; omega, HK1.out, hg_drop S10.out⟩
                      · have hd : decide (0 ≤ n ∧ n < 3) = false := decide_eq_false hin
                        rw [HBI.out] at hd
                        subst hd
                        clear hin
                        go_wp2_with fail
                        go_meet
                        exact ⟨tb, wb, nr, Ts, F, rfl, rfl, by have := HNR.out; omega, HOK.out, hg_drop S8.out⟩
                  · by_cases k2 : kd = 2
                    · subst k2
                      clear k0 k1
                      as_aux_lemma =>
                        by_cases hin : 0 ≤ n ∧ n < 3
                        · obtain ⟨k, rfl⟩ : ∃ k : Nat, n = k := ⟨n.toNat, by omega⟩
                          have hk : k < 3 := by omega
                          have hd : decide (0 ≤ (k : Int) ∧ (k : Int) < 3) = true := decide_eq_true hin
                          rw [HBI.out] at hd
                          subst hd
                          have hkI : (k : Int) < 3 := by omega
                          have qt1 := (CT.out _ _ _ _ _ _ _ _ _ S8.out) k hk
                          have Q := Lib.hid (ht_replace w8 k hk HOK.out.len S8.out)
                          have HRR := Lib.hid (fun w' Tz Fz (s : St w0.heap.size w0 w' (Htt fb rfb tb wb p0 p1 p2 q0 q1 q2 nr Tz Fz nr Ts F (HG g g2 2 k ab b.length cb c0 c1 c2 p0 p1 p2))) => And.intro (ht_rc k hk HOK.out.len s) (ht_rreplace w' k hk HOK.out.len s))
                          generalize [p0, p1, p2].getD k 0 = pk at *
                          generalize [q0, q1, q2].getD k 0 = qk at *
                          have HK1 := Lib.hid (HOK.out.replace k hk)
                          clear hin
                          go_wp2_with fail
                          refine Q.out.mono ?_
                          rintro e w9 ⟨rfl, s9⟩
                          have S9 := Lib.hid s9
                          clear s9 Q S8 qt1 x0 x1 x2 x3 x4 x5
                          go_wp2_with fail
                          refine wp_region_rx (fun j w => St w0.heap.size w0 w (Htt fb rfb tb wb p0 p1 p2 q0 q1 q2 nr (Ts.set k Tp.new) F nr (if j = 0 then Ts else Ts.set k Tp.new) F (HG g g2 2 k ab b.length cb c0 c1 c2 p0 p1 p2))) [7] mixed (by kernel_rfl) (by kernel_rfl) S9.out.drew ?_
                          refine RXl.exact (.pointer (some ⟨wb, 0, none⟩)) rfl rfl rfl rfl rfl (fun _ _ _ _ _ => rfl) ?_
                          refine RXl.exact (.pointer (some ⟨g, 1, none⟩)) rfl rfl rfl rfl rfl (fun j τ w' hj hJ => by simp [rho, upd, Spec.val, execOp, go_sem]) ?_
                          refine RXl.exactB 0 7 rfl (by kernel_rfl) (.int .i64 ↑k) rfl rfl rfl rfl rfl (fun j τ w' hj hJ => by have c := (CG.out w' _ _ _ _ _ _ _ _ hJ).2.1; simp [rho, upd, Spec.val, execOp, go_sem, c]) ?_
                          refine RXl.exact (.pointer (some ⟨wb, 0, none⟩)) rfl rfl rfl rfl rfl (fun j τ w' hj hJ => by simp [rho, upd, Spec.val, execOp, go_sem]) ?_
                          refine RXl.exact (.pointer (some ⟨wb, 0, none⟩)) rfl rfl rfl rfl rfl (fun j τ w' hj hJ => by simp [rho, upd, Spec.val, execOp, go_sem]) ?_
                          refine RXl.exact (.pointer (some ⟨wb, k, none⟩)) rfl rfl rfl rfl rfl (fun j τ w' hj hJ => by simp [rho, upd, Spec.val, execOp, go_sem, hkI]) ?_
                          refine RXl.exactB 0 7 rfl (by kernel_rfl) (.pointer (some ⟨qk, 0, none⟩)) rfl rfl rfl rfl rfl (fun j τ w' hj hJ => by (obtain rfl : j = 0 := by omega); have c := (HRR.out w' _ _ hJ).1.1; simp [rho, upd, Spec.val, execOp, go_sem, c]) ?_
                          refine RXl.callj 0 (.tuple #[]) _ [.pointer (some ⟨qk, 0, none⟩)] [.tmp 152] _ rfl rfl rfl rfl rfl rfl (fun _ => rfl) (fun w' hJ => (HRR.out w' _ _ hJ).2) ?_
                          refine RXl.nilx _ (Agr.upd _ _ (Agr.upd _ _ (Agr.upd _ _ (Agr.upd _ _ (Agr.upd _ _ (Agr.upd _ _ (Agr.upd _ _ (Agr.upd _ _ (Agr.base _))))))))) fun w10 hJ => ?_
                          obtain ⟨_, hJ⟩ := hJ
                          simp only [Act.put, List.setIfInBounds_toArray, List.set_cons_succ, List.set_cons_zero]
                          have S10 := Lib.hid (show St w0.heap.size w0 w10 (Htt fb rfb tb wb p0 p1 p2 q0 q1 q2 nr (Ts.set k Tp.new) F nr (Ts.set k Tp.new) F (HG g g2 2 k ab b.length cb c0 c1 c2 p0 p1 p2)) from hJ)
                          clear hJ S9 HRR
                          go_wp2_with fail
                          go_meet
                          exact ⟨tb, wb, nr, _, F, rfl, rfl, by have := HNR.out; omega, HK1.out, hg_drop S10.out⟩
                        · have hd : decide (0 ≤ n ∧ n < 3) = false := decide_eq_false hin
                          rw [HBI.out] at hd
                          subst hd
                          clear hin
                          go_wp2_with fail
                          go_meet
                          exact ⟨tb, wb, nr, Ts, F, rfl, rfl, by have := HNR.out; omega, HOK.out, hg_drop S8.out⟩
                    · by_cases k3 : kd = 3
                      · subst k3
                        clear k0 k1 k2
                        as_aux_lemma =>
                          obtain ⟨e1, F1, Ts1, ht, hok1⟩ := trMend_keep HOK.out n
                          have HT := Lib.hid ht
                          have HK := Lib.hid hok1
                          clear ht hok1
                          go_wp2_with fail
                          refine wp_region_rx (fun j w => St w0.heap.size w0 w (Htt fb rfb tb wb p0 p1 p2 q0 q1 q2 nr (if j = 0 then Ts else Ts1) (if j = 0 then F else F1) nr (if j ≤ 1 then Ts else Ts1) (if j ≤ 1 then F else F1) (HG g g2 3 n ab b.length cb c0 c1 c2 p0 p1 p2))) [3, 7] mixed (by kernel_rfl) (by kernel_rfl) S8.out.drew ?_
                          refine RXl.exact (.pointer (some ⟨tb, 0, none⟩)) rfl rfl rfl rfl rfl (fun _ _ _ _ _ => rfl) ?_
                          refine RXl.exact (.pointer (some ⟨g, 1, none⟩)) rfl rfl rfl rfl rfl (fun j τ w' hj hJ => by simp [rho, upd, Spec.val, execOp, go_sem]) ?_
                          refine RXl.exact (.int .i64 n) rfl rfl rfl rfl rfl (fun j τ w' hj hJ => by have c := (CG.out w' _ _ _ _ _ _ _ _ hJ).2.1; simp [rho, upd, Spec.val, execOp, go_sem, c]) ?_
                          refine RXl.callj 0 (.int .i64 e1) _ [.pointer (some ⟨tb, 0, none⟩), .int .i64 n] [.tmp 156, .tmp 158] _ rfl rfl rfl rfl rfl rfl (fun _ => rfl) (fun w' hJ => ht_mend w' HT.out HOK.out.len (show St w0.heap.size w0 w' (Htt fb rfb tb wb p0 p1 p2 q0 q1 q2 nr Ts F nr Ts F _) from hJ)) ?_
                          refine RXl.exact (.pointer (some ⟨wb, 0, none⟩)) rfl rfl rfl rfl rfl (fun _ _ _ _ _ => rfl) ?_
                          refine RXl.exact (.pointer (some ⟨g, 1, none⟩)) rfl rfl rfl rfl rfl (fun j τ w' hj hJ => by simp [rho, upd, Spec.val, execOp, go_sem]) ?_
                          refine RXl.exact (.int .i64 n) rfl rfl rfl rfl rfl (fun j τ w' hj hJ => by have c := (CG.out w' _ _ _ _ _ _ _ _ hJ).2.1; simp [rho, upd, Spec.val, execOp, go_sem, c]) ?_
                          refine RXl.callj 1 (.int .i64 e1) _ [.pointer (some ⟨wb, 0, none⟩), .int .i64 n] [.tmp 160, .tmp 162] _ rfl rfl rfl rfl rfl rfl (fun _ => rfl) (fun w' hJ => ht_rmend w' HT.out HOK.out (show St w0.heap.size w0 w' (Htt fb rfb tb wb p0 p1 p2 q0 q1 q2 nr Ts1 F1 nr Ts F _) from hJ)) ?_
                          refine RXl.exact (.bool false) rfl rfl rfl rfl rfl (fun j τ w' hj hJ => by simp [rho, upd, Spec.val, execOp, go_sem]) ?_
                          refine RXl.nilx _ (Agr.upd _ _ (Agr.upd _ _ (Agr.upd _ _ (Agr.upd _ _ (Agr.upd _ _ (Agr.upd _ _ (Agr.upd _ _ (Agr.upd _ _ (Agr.upd _ _ (Agr.base _)))))))))) fun w9 hJ => ?_
                          obtain ⟨_, hJ⟩ := hJ
                          simp only [Act.put, List.setIfInBounds_toArray, List.set_cons_succ, List.set_cons_zero]
                          have S9 := Lib.hid (show St w0.heap.size w0 w9 (Htt fb rfb tb wb p0 p1 p2 q0 q1 q2 nr Ts1 F1 nr Ts1 F1 (HG g g2 3 n ab b.length cb c0 c1 c2 p0 p1 p2)) from hJ)
                          clear hJ S8 HT
                          go_wp2_with fail
                          go_meet
                          exact ⟨tb, wb, nr, Ts1, F1, rfl, rfl, by have := HNR.out; omega, HK.out, hg_drop S9.out⟩
                      · by_cases k4 : kd = 4
                        · subst k4
                          clear k0 k1 k2 k3
                          as_aux_lemma =>
                            go_wp2_with fail
                            go_loopw [14] (fun i wr => ∃ (k : Nat) (Tz : List Tp), k ≤ 3 ∧ i = .int .i64 k ∧ Rok Tz F ∧ St w0.heap.size w0 wr (Htt fb rfb tb wb p0 p1 p2 q0 q1 q2 nr Tz F nr Tz F (HG g g2 4 n ab b.length cb c0 c1 c2 p0 p1 p2))) (fun i _ => 3 - (intOf i).toNat)
                            case atStart => exact ⟨0, Ts, Nat.zero_le _, rfl, HOK.out, S8.out⟩
                            case round =>
                              obtain ⟨k, Tz, hk, rfl, hokz, s9⟩ := hrel
                              clear S8 HOK
                              by_cases hlt : k < 3
                              · have hkI : (k : Int) < 3 := by omega
                                have HOK := Lib.hid hokz
                                have S9 := Lib.hid s9
                                have HCk := Lib.hid (show [c0, c1, c2].getD k 0 ≤ 9223372036854775807 from by obtain rfl | rfl | rfl : k = 0 ∨ k = 1 ∨ k = 2 := (by omega); exact HC3.out.1; exact HC3.out.2.1; exact HC3.out.2.2)
                                have HGK := Lib.hid (fun w' n1 T1 F1 n2 T2 F2 (s : St w0.heap.size w0 w' (Htt fb rfb tb wb p0 p1 p2 q0 q1 q2 n1 T1 F1 n2 T2 F2 (HG g g2 4 n ab b.length cb c0 c1 c2 p0 p1 p2))) => show w'.cell? ⟨g, 3 + k, none⟩ = some (.int .i64 ([c0, c1, c2].getD k 0)) ∧ w'.cell? ⟨g2, k, none⟩ = some (pp ([p0, p1, p2].getD k 0)) from ⟨by obtain rfl | rfl | rfl : k = 0 ∨ k = 1 ∨ k = 2 := (by omega); exact (CG.out _ _ _ _ _ _ _ _ _ s).2.2.2.1; exact (CG.out _ _ _ _ _ _ _ _ _ s).2.2.2.2.1; exact (CG.out _ _ _ _ _ _ _ _ _ s).2.2.2.2.2, (CT.out _ _ _ _ _ _ _ _ _ s) k hlt⟩)
                                have HC1 := Lib.hid (fun w' T2 F2 c hc (s : St w0.heap.size w0 w' (Htt fb rfb tb wb p0 p1 p2 q0 q1 q2 nr Tz F nr T2 F2 (HG g g2 4 n ab b.length cb c0 c1 c2 p0 p1 p2))) => ht_crash w' k hlt hokz.len c hc s)
                                have HC2 := Lib.hid (fun w' T2 F2 c hc (s : St w0.heap.size w0 w' (Htt fb rfb tb wb p0 p1 p2 q0 q1 q2 nr T2 F2 nr Tz F (HG g g2 4 n ab b.length cb c0 c1 c2 p0 p1 p2))) => And.intro (ht_rc k hlt hokz.len s) (ht_rcrash w' k hlt hokz c hc s))
                                generalize hck : [c0, c1, c2].getD k 0 = ck at *
                                have HCR := Lib.hid (hokz.crash k hlt ck)
                                generalize [p0, p1, p2].getD k 0 = pk at *
                                generalize [q0, q1, q2].getD k 0 = qk at *
                                clear s9 hokz hlt hck
                                go_wp2_with fail
                                refine wp_region_rx (fun j w => St w0.heap.size w0 w (Htt fb rfb tb wb p0 p1 p2 q0 q1 q2 nr (if j = 0 then Tz else Tz.set k (tCrash (Tz.getD k Tp.new) ck)) F nr Tz F (HG g g2 4 n ab b.length cb c0 c1 c2 p0 p1 p2))) [7] mixed (by kernel_rfl) (by kernel_rfl) S9.out.drew ?_
                                refine RXl.exact (.int .i64 ↑k) rfl rfl rfl rfl rfl (fun _ _ _ _ _ => rfl) ?_
                                refine RXl.exact (.pointer (some ⟨g2, k, none⟩)) rfl rfl rfl rfl rfl (fun j τ w' hj hJ => by simp [rho, upd, Spec.val, execOp, go_sem, hkI]) ?_
                                refine RXl.exact (pp pk) rfl rfl rfl rfl rfl (fun j τ w' hj hJ => by have c := (HGK.out w' _ _ _ _ _ _ hJ).2; simp [rho, upd, Spec.val, execOp, go_sem, c]) ?_
                                refine RXl.exact (.int .i64 ↑k) rfl rfl rfl rfl rfl (fun _ _ _ _ _ => rfl) ?_
                                refine RXl.exact (.pointer (some ⟨g, 3, none⟩)) rfl rfl rfl rfl rfl (fun j τ w' hj hJ => by simp [rho, upd, Spec.val, execOp, go_sem]) ?_
                                refine RXl.exact (.pointer (some ⟨g, 3 + k, none⟩)) rfl rfl rfl rfl rfl (fun j τ w' hj hJ => by simp [rho, upd, Spec.val, execOp, go_sem, hkI]) ?_
                                refine RXl.exact (.int .i64 ck) rfl rfl rfl rfl rfl (fun j τ w' hj hJ => by have c := (HGK.out w' _ _ _ _ _ _ hJ).1; simp [rho, upd, Spec.val, execOp, go_sem, c]) ?_
                                refine RXl.callj 0 (.tuple #[]) _ [pp pk, .int .i64 ck] [.tmp 173, .tmp 177] _ rfl rfl rfl rfl rfl rfl (fun _ => rfl) (fun w' hJ => HC1.out w' _ _ ck HCk.out hJ) ?_
                                refine RXl.nilx _ (Agr.upd _ _ (Agr.upd _ _ (Agr.upd _ _ (Agr.upd _ _ (Agr.upd _ _ (Agr.upd _ _ (Agr.upd _ _ (Agr.upd _ _ (Agr.base _))))))))) fun w10 hJ => ?_
                                obtain ⟨_, hJ⟩ := hJ
                                simp only [Act.put, List.setIfInBounds_toArray, List.set_cons_succ, List.set_cons_zero]
                                have S10 := Lib.hid (show St w0.heap.size w0 w10 (Htt fb rfb tb wb p0 p1 p2 q0 q1 q2 nr (Tz.set k (tCrash (Tz.getD k Tp.new) ck)) F nr Tz F (HG g g2 4 n ab b.length cb c0 c1 c2 p0 p1 p2)) from hJ)
                                clear hJ S9 HC1
                                go_wp2_with fail
                                refine wp_region_rx (fun j w => St w0.heap.size w0 w (Htt fb rfb tb wb p0 p1 p2 q0 q1 q2 nr (Tz.set k (tCrash (Tz.getD k Tp.new) ck)) F nr (if j = 0 then Tz else Tz.set k (tCrash (Tz.getD k Tp.new) ck)) F (HG g g2 4 n ab b.length cb c0 c1 c2 p0 p1 p2))) [10] mixed (by kernel_rfl) (by kernel_rfl) S10.out.drew ?_
                                refine RXl.exact (.pointer (some ⟨wb, 0, none⟩)) rfl rfl rfl rfl rfl (fun _ _ _ _ _ => rfl) ?_
                                refine RXl.exact (.int .i64 ↑k) rfl rfl rfl rfl rfl (fun _ _ _ _ _ => rfl) ?_
                                refine RXl.exact (.pointer (some ⟨wb, 0, none⟩)) rfl rfl rfl rfl rfl (fun j τ w' hj hJ => by simp [rho, upd, Spec.val, execOp, go_sem]) ?_
                                refine RXl.exact (.pointer (some ⟨wb, 0, none⟩)) rfl rfl rfl rfl rfl (fun j τ w' hj hJ => by simp [rho, upd, Spec.val, execOp, go_sem]) ?_
                                refine RXl.exact (.pointer (some ⟨wb, k, none⟩)) rfl rfl rfl rfl rfl (fun j τ w' hj hJ => by simp [rho, upd, Spec.val, execOp, go_sem, hkI]) ?_
                                refine RXl.exactB 0 10 rfl (by kernel_rfl) (pp qk) rfl rfl rfl rfl rfl (fun j τ w' hj hJ => by (obtain rfl : j = 0 := by omega); have c := (HC2.out w' _ _ ck HCk.out hJ).1.1; simp [rho, upd, Spec.val, execOp, go_sem, c]) ?_
                                refine RXl.exact (.int .i64 ↑k) rfl rfl rfl rfl rfl (fun _ _ _ _ _ => rfl) ?_
                                refine RXl.exact (.pointer (some ⟨g, 3, none⟩)) rfl rfl rfl rfl rfl (fun j τ w' hj hJ => by simp [rho, upd, Spec.val, execOp, go_sem]) ?_
                                refine RXl.exact (.pointer (some ⟨g, 3 + k, none⟩)) rfl rfl rfl rfl rfl (fun j τ w' hj hJ => by simp [rho, upd, Spec.val, execOp, go_sem, hkI]) ?_
                                refine RXl.exactB 0 10 rfl (by kernel_rfl) (.int .i64 ck) rfl rfl rfl rfl rfl (fun j τ w' hj hJ => by have c := (HGK.out w' _ _ _ _ _ _ hJ).1; simp [rho, upd, Spec.val, execOp, go_sem, c]) ?_
                                refine RXl.callj 0 (.tuple #[]) _ [pp qk, .int .i64 ck] [.tmp 184, .tmp 188] _ rfl rfl rfl rfl rfl rfl (fun _ => rfl) (fun w' hJ => (HC2.out w' _ _ ck HCk.out hJ).2) ?_
                                refine RXl.nilx _ (Agr.upd _ _ (Agr.upd _ _ (Agr.upd _ _ (Agr.upd _ _ (Agr.upd _ _ (Agr.upd _ _ (Agr.upd _ _ (Agr.upd _ _ (Agr.upd _ _ (Agr.upd _ _ (Agr.upd _ _ (Agr.base _)))))))))))) fun w11 hJ => ?_
                                obtain ⟨_, hJ⟩ := hJ
                                simp only [Act.put, List.setIfInBounds_toArray, List.set_cons_succ, List.set_cons_zero]
                                have S11 := Lib.hid (show St w0.heap.size w0 w11 (Htt fb rfb tb wb p0 p1 p2 q0 q1 q2 nr (Tz.set k (tCrash (Tz.getD k Tp.new) ck)) F nr (Tz.set k (tCrash (Tz.getD k Tp.new) ck)) F (HG g g2 4 n ab b.length cb c0 c1 c2 p0 p1 p2)) from hJ)
                                clear hJ S10 HC2
                                go_wp2_with fail
                                go_roundw
                                case rel => exact ⟨k + 1, _, by omega, by go_num, HCR.out, S11.out⟩
                                case measure => (simp [intOf] <;> omega)
                              · obtain rfl : k = 3 := by omega
                                rw [show ((3 : Nat) : Int) = (3 : Int) from rfl]
                                have HOK := Lib.hid hokz
                                have HT0 := (CT.out _ _ _ _ _ _ _ _ _ s9)
                                have t0 := HT0 0 (by omega)
                                have t1 := HT0 1 (by omega)
                                have t2 := HT0 2 (by omega)
                                have HRC := Lib.hid (fun w' tb' n1 T1 F1 R' (s : St w0.heap.size w0 w' (Htt fb rfb tb' wb p0 p1 p2 q0 q1 q2 n1 T1 F1 nr Tz F R')) => And.intro (ht_rc 0 (by omega) hokz.len s).1 (And.intro (ht_rc 1 (by omega) hokz.len s).1 (ht_rc 2 (by omega) hokz.len s).1))
                                have S9 := Lib.hid s9
                                clear HT0 s9 hlt hk
                                simp at t0 t1 t2
                                obtain ⟨e1, F1, Ts1, hop, hok1⟩ := opK_keep (best Tz) (lvi Tz) F Tz hokz (lvi_lt Tz)
                                have HK1 := Lib.hid hok1
                                by_cases hyes : ¬ (lvi Tz).length < 2 ∧ e1 = 0
                                · obtain ⟨hl2, rfl⟩ := hyes
                                  have Q1 := Lib.hid (ht_open_yes _ hokz.len hl2 hop S9.out)
                                  have Q3 := Lib.hid (fun w' tb' n1 T1 G1 R' (s : St w0.heap.size w0 w' (Htt fb rfb tb' wb p0 p1 p2 q0 q1 q2 n1 T1 G1 nr Tz F R')) => ht_ropen_yes w' hokz hl2 hop s)
                                  have HBF := Lib.hid (best_few hokz).1
                                  generalize best Tz = bs at *
                                  clear hokz hok1 hop hl2
                                  go_wp2_with fail
                                  refine Q1.out.mono ?_
                                  rintro e w10 ⟨X, tb', v15, vs15, rfl, hbr, s10⟩
                                  have r0 := (HRC.out _ _ _ _ _ _ s10).1
                                  have r1 := (HRC.out _ _ _ _ _ _ s10).2.1
                                  have r2 := (HRC.out _ _ _ _ _ _ s10).2.2
                                  have S10 := Lib.hid s10
                                  have HBR := Lib.hid hbr
                                  simp at r0 r1 r2
                                  clear s10 hbr Q1 S9 t0 t1 t2
                                  go_wp2_with fail
                                  refine (Q3.out _ _ _ _ _ _ S10.out).mono ?_
                                  rintro e w11 ⟨X2, wb', v19, rfl, hsr, s11⟩
                                  have s12 : St w0.heap.size w0 w11 (Htt fb rfb tb' wb' p0 p1 p2 q0 q1 q2 bs.length Ts1 F1 bs.length Ts1 F1 (HG g g2 4 n ab b.length cb c0 c1 c2 p0 p1 p2) * (X2 * X)) := s11.eq (by unfold Htt Hr; ac_rfl)
                                  have hrd : ∀ w' H, St w0.heap.size w0 w' (H * (Htt fb rfb tb' wb' p0 p1 p2 q0 q1 q2 bs.length Ts1 F1 bs.length Ts1 F1 (HG g g2 4 n ab b.length cb c0 c1 c2 p0 p1 p2) * (X2 * X))) → BSS w' v15 bs ∧ SL w' v19 bs := fun w' H s =>
                                    ⟨HBR.out.bss (H := H * (Htt fb rfb tb' wb' p0 p1 p2 q0 q1 q2 bs.length Ts1 F1 bs.length Ts1 F1 (HG g g2 4 n ab b.length cb c0 c1 c2 p0 p1 p2) * X2)) (s.eq (by ac_rfl)), hsr w' (H * (Htt fb rfb tb' wb' p0 p1 p2 q0 q1 q2 bs.length Ts1 F1 bs.length Ts1 F1 (HG g g2 4 n ab b.length cb c0 c1 c2 p0 p1 p2) * X)) (s.eq (by ac_rfl))⟩
                                  have HRD := Lib.hid hrd
                                  have S12 := Lib.hid s12
                                  clear s11 s12 hsr hrd Q3 HBR S10 r0 r1 r2 HRC
                                  go_wp2_with fail
                                  refine (strings_calls v15 bs w11 (fun w' H s => (HRD.out w' H s).1) (by have := HBF.out; omega) S12.out).mono ?_
                                  rintro e w12 ⟨v210, rfl, s13⟩
                                  have q := same_calls v210 v19 bs bs w12 (Str.St.sl _ s13) (HRD.out w12 _ s13).2
                                  rw [show decide (bs = bs) = true from by simp] at q
                                  have Q := Lib.hid q
                                  have S13 := Lib.hid s13
                                  clear q s13 S12 HRD
                                  go_wp2_with fail
                                  refine Q.out.mono ?_
                                  rintro e w13 ⟨rfl, hadd⟩
                                  have S14 := Lib.hid (S13.out.keep hadd).right.left
                                  clear hadd Q S13
                                  go_wp2_with fail
                                  go_meet
                                  exact ⟨tb', wb', bs.length, Ts1, F1, rfl, rfl, by have := HBF.out; omega, HK1.out, hg_drop S14.out⟩
                                · obtain ⟨e2, Ts2, F2, hc, hne, hok2⟩ : ∃ e2 Ts2 F2, ((lvi Tz).length < 2 ∧ e2 = 8 ∧ Ts2 = Tz ∧ F2 = F ∨ ¬ (lvi Tz).length < 2 ∧ opK (some F) Tz (lvi Tz) (best Tz) = (e2, some F2, Ts2) ∧ e2 ≠ 0) ∧ e2 ≠ 0 ∧ Rok Ts2 F2 := by
                                    by_cases h2 : (lvi Tz).length < 2
                                    · exact ⟨8, Tz, F, .inl ⟨h2, rfl, rfl, rfl⟩, by decide, hokz⟩
                                    · exact ⟨e1, Ts1, F1, .inr ⟨h2, hop, fun h => hyes ⟨h2, h⟩⟩, fun h => hyes ⟨h2, h⟩, hok1⟩
                                  have HK2 := Lib.hid hok2
                                  have Q1 := Lib.hid (ht_open_no _ hokz.len hc S9.out)
                                  have Q3 := Lib.hid (fun w' tb' n1 T1 G1 R' (s : St w0.heap.size w0 w' (Htt fb rfb tb' wb p0 p1 p2 q0 q1 q2 n1 T1 G1 nr Tz F R')) => ht_ropen_no w' hokz hc s)
                                  have hne1 : (e2 == 0) = false := by simpa using hne
                                  clear hokz hok1 hop hc hyes hok2 hne HK1
                                  go_wp2_with fail
                                  refine Q1.out.mono ?_
                                  rintro e w10 ⟨rfl, s10⟩
                                  have r0 := (HRC.out _ _ _ _ _ _ s10).1
                                  have r1 := (HRC.out _ _ _ _ _ _ s10).2.1
                                  have r2 := (HRC.out _ _ _ _ _ _ s10).2.2
                                  have S10 := Lib.hid s10
                                  simp at r0 r1 r2
                                  clear s10 Q1 S9 t0 t1 t2
                                  go_wp2_with fail
                                  refine (Q3.out _ _ _ _ _ _ S10.out).mono ?_
                                  rintro e w11 ⟨rfl, s11⟩
                                  have S12 := Lib.hid s11
                                  clear s11 Q3 S10 r0 r1 r2 HRC
                                  go_wp2_with fail
                                  refine (strings_calls (.slice none 0 0) [] w11 (fun w' H s => bss_nil w') (by simp) S12.out).mono ?_
                                  rintro e w12 ⟨v210, rfl, s13⟩
                                  have q := same_calls v210 (.slice none 0 0) [] [] w12 (Str.St.sl _ s13) ⟨none, 0, rfl, Nat.le_refl _, Nat.zero_le _, fun _ => rfl, .inl rfl⟩
                                  rw [show decide (([] : List (List UInt8)) = []) = true from rfl] at q
                                  have Q := Lib.hid q
                                  have S13 := Lib.hid s13
                                  clear q s13 S12
                                  go_wp2_with fail
                                  refine Q.out.mono ?_
                                  rintro e w13 ⟨rfl, hadd⟩
                                  have S14 := Lib.hid (S13.out.keep hadd).right
                                  clear hadd Q S13
                                  go_wp2_with fail
                                  go_meet
                                  exact ⟨tb, wb, nr, Ts2, F2, rfl, rfl, by have := HNR.out; omega, HK2.out, hg_drop S14.out⟩
                        · have e0 : (kd == 0) = false := by simpa using k0
                          have e1 : (kd == 1) = false := by simpa using k1
                          have e2 : (kd == 2) = false := by simpa using k2
                          have e3 : (kd == 3) = false := by simpa using k3
                          have e4 : (kd == 4) = false := by simpa using k4
                          clear k0 k1 k2 k3 k4
                          as_aux_lemma =>
                            have hm : bits .and .i64 n 31 = ((n % 32).toNat : Int) := by rw [and_m5]; omega
                            have hmle : ((n % 32).toNat : Int) ≤ 9223372036854775807 := by omega
                            generalize ((n % 32).toNat : Int) = m at *
                            have HML := Lib.hid hmle
                            clear hmle
                            go_wp2_with fail
                            refine (ht_set w8 m HML.out S8.out).mono ?_
                            rintro e w9 ⟨rfl, s9⟩
                            obtain ⟨y0, y1, y2, y3, y4, y5⟩ := CG.out _ _ _ _ _ _ _ _ _ s9
                            have S9 := Lib.hid s9
                            clear s9 S8 x0 x1 x2 x3 x4 x5
                            go_wp2_with fail
                            refine (rnewFuse_calls m w9 S9.out).mono ?_
                            rintro e w10 ⟨q', rfl, s10⟩
                            have q9 : St w0.heap.size w0 w10 (pts q' (.cells #[.bool (!(Fu.new m).bound), .int .i64 (Fu.new m).left] 75 (0, 0)) * Htt fb rfb tb wb p0 p1 p2 q0 q1 q2 nr Ts (Fu.new m) nr Ts F (HG g g2 kd n ab b.length cb c0 c1 c2 p0 p1 p2)) := s10
                            have c0 := q9.cell 0
                            have c1 := q9.cell 1
                            obtain ⟨d0, d1, f0, f1⟩ := ht_rfz q9.right
                            have HFit := Lib.hid (new_fits HML.out)
                            have S10 := Lib.hid q9.right
                            clear s10 q9 S9 y0 y1 y2 y3 y4 y5
                            generalize Fu.new m = Gf at *
                            simp at c0 c1 d0 d1
                            go_wp2_with fail
                            go_meet
                            exact ⟨tb, wb, nr, Ts, Gf, rfl, rfl, by have := HNR.out; omega, HOK.out.fuse HFit.out, hg_drop (ht_rset S10.out)⟩
              case rest =>
                as_aux_lemma =>
                  clear S8 x0 x1 x2 x3 x4 x5 CG CT HOK HBI HNR
                  obtain ⟨tb', wb', nr', Tz, Fz, rfl, rfl, hnr, hok, s9⟩ := hcut
                  have HNR := Lib.hid hnr
                  have HOK := Lib.hid hok
                  have S9 := Lib.hid s9
                  have HRN := Lib.hid (fun w' (s : St w0.heap.size w0 w' (Htt fb rfb tb' wb' p0 p1 p2 q0 q1 q2 nr' Tz Fz nr' Tz Fz (pts g2 (.cells #[pp p0, pp p1, pp p2] 43) * emp))) => (ht_rc 0 (by omega) hok.len s).2.2.2)
                  clear hnr hok s9
                  go_wp2_with fail
                  refine wp_region_rx (fun _ w => St w0.heap.size w0 w (Htt fb rfb tb' wb' p0 p1 p2 q0 q1 q2 nr' Tz Fz nr' Tz Fz (pts g2 (.cells #[pp p0, pp p1, pp p2] 43) * emp))) [] mixed (by kernel_rfl) (by kernel_rfl) S9.out.drew ?_
                  refine RXl.exact (.pointer (some ⟨tb', 0, none⟩)) rfl rfl rfl rfl rfl (fun _ _ _ _ _ => rfl) ?_
                  refine RXl.callr (.int .i64 nr') _ [.pointer (some ⟨tb', 0, none⟩)] [.tmp 226] _ rfl rfl rfl rfl rfl rfl (fun _ => rfl) (fun j τ w' hj hJ => ht_records w' hJ) ?_
                  refine RXl.exact (.pointer (some ⟨wb', 0, none⟩)) rfl rfl rfl rfl rfl (fun _ _ _ _ _ => rfl) ?_
                  refine RXl.exact (.pointer (some ⟨wb', 0, none⟩)) rfl rfl rfl rfl rfl (fun j τ w' hj hJ => by simp [rho, upd, Spec.val, execOp, go_sem]) ?_
                  refine RXl.exact (.pointer (some ⟨wb', 3, none⟩)) rfl rfl rfl rfl rfl (fun j τ w' hj hJ => by simp [rho, upd, Spec.val, execOp, go_sem]) ?_
                  refine RXl.exact (.int .i64 nr') rfl rfl rfl rfl rfl (fun j τ w' hj hJ => by have c := HRN.out w' hJ; simp [rho, upd, Spec.val, execOp, go_sem, c]) ?_
                  refine RXl.exact (.bool false) rfl rfl rfl rfl rfl (fun j τ w' hj hJ => by simp [rho, upd, Spec.val, execOp, go_sem]) ?_
                  refine RXl.nilx _ (Agr.upd _ _ (Agr.upd _ _ (Agr.upd _ _ (Agr.upd _ _ (Agr.upd _ _ (Agr.upd _ _ (Agr.upd _ _ (Agr.base _)))))))) fun w10 hJ => ?_
                  obtain ⟨_, hJ⟩ := hJ
                  simp only [Act.put, List.setIfInBounds_toArray, List.set_cons_succ, List.set_cons_zero]
                  have S10 := Lib.hid hJ
                  clear hJ S9 HRN
                  go_wp2_with fail
                  refine (ht_tapes w10 S10.out).mono ?_
                  rintro e w11 ⟨rfl, s11⟩
                  have s12 := (ht_y s11)
                  have S11 := Lib.hid (show St w0.heap.size w0 _ (pts g2 (.cells #[pp p0, pp p1, pp p2] 43) * Htt fb rfb tb' wb' p0 p1 p2 q0 q1 q2 nr' Tz Fz nr' Tz Fz emp) from ((s12.set 0 (pp p0)).set 1 (pp p1)).set 2 (pp p2))
                  have t0 := s12.cell 0
                  have t1 := s12.cell 1
                  have t2 := s12.cell 2
                  have z0 := s12.free 0
                  have z1 := s12.free 1
                  have z2 := s12.free 2
                  simp at t0 t1 t2
                  clear s11 s12 S10
                  go_wp2_with fail
                  have S12 := Lib.hid (ht_x S11.out)
                  generalize ((w11.setCell _ _).setCell _ _).setCell _ _ = w12 at S12 ⊢
                  clear S11 t0 t1 t2 z0 z1 z2
                  go_loopw [21] (fun i wr => ∃ k : Nat, k ≤ 3 ∧ i = .int .i64 k ∧ St w0.heap.size w0 wr (Htt fb rfb tb' wb' p0 p1 p2 q0 q1 q2 nr' Tz Fz nr' Tz Fz (pts g2 (.cells #[pp p0, pp p1, pp p2] 43) * emp))) (fun i _ => 3 - (intOf i).toNat)
                  case atStart => exact ⟨0, Nat.zero_le _, rfl, S12.out⟩
                  case round =>
                    obtain ⟨k, hk, rfl, s13⟩ := hrel
                    clear S12
                    by_cases hlt : k < 3
                    · have hkI : (k : Int) < 3 := by omega
                      have S13 := Lib.hid s13
                      have HRC := Lib.hid (fun w' R (s : St w0.heap.size w0 w' (Htt fb rfb tb' wb' p0 p1 p2 q0 q1 q2 nr' Tz Fz nr' Tz Fz R)) => And.intro (ht_rc k hlt HOK.out.len s) (And.intro (ht_live w' k hlt HOK.out.len s) (ht_bytes w' k hlt HOK.out.len s)))
                      have HGK := Lib.hid (fun w' X (s : St w0.heap.size w0 w' (Htt fb rfb tb' wb' p0 p1 p2 q0 q1 q2 nr' Tz Fz nr' Tz Fz (X * (pts g2 (.cells #[pp p0, pp p1, pp p2] 43) * emp)))) => show w'.cell? ⟨g2, k, none⟩ = some (pp ([p0, p1, p2].getD k 0)) from (have q := (ht_y s).right; have q2 := (s.eq (Q := pts g2 (.cells #[pp p0, pp p1, pp p2] 43) * Htt fb rfb tb' wb' p0 p1 p2 q0 q1 q2 nr' Tz Fz nr' Tz Fz X) (by unfold Htt Hr; rw [sep_emp]; ac_rfl)); get3 p0 p1 p2 k hlt (q2.cell 0) (q2.cell 1) (q2.cell 2)))
                      have HGE := Lib.hid (fun w' (s : St w0.heap.size w0 w' (Htt fb rfb tb' wb' p0 p1 p2 q0 q1 q2 nr' Tz Fz nr' Tz Fz (pts g2 (.cells #[pp p0, pp p1, pp p2] 43) * emp))) => HGK.out w' emp (s.eq (by rw [emp_sep])))
                      generalize [p0, p1, p2].getD k 0 = pk at *
                      generalize [q0, q1, q2].getD k 0 = qk at *
                      generalize Tz.getD k Tp.new = T at *
                      obtain ⟨tb9, tl9, tg9⟩ := T
                      clear s13 hlt HGK
                      go_wp2_with fail
                      refine wp_region_rx (fun _ w => St w0.heap.size w0 w (Htt fb rfb tb' wb' p0 p1 p2 q0 q1 q2 nr' Tz Fz nr' Tz Fz (pts g2 (.cells #[pp p0, pp p1, pp p2] 43) * emp))) [] mixed (by kernel_rfl) (by kernel_rfl) S13.out.drew ?_
                      refine RXl.exact (.int .i64 ↑k) rfl rfl rfl rfl rfl (fun _ _ _ _ _ => rfl) ?_
                      refine RXl.exact (.pointer (some ⟨g2, k, none⟩)) rfl rfl rfl rfl rfl (fun j τ w' hj hJ => by simp [rho, upd, Spec.val, execOp, go_sem, hkI]) ?_
                      refine RXl.exact (pp pk) rfl rfl rfl rfl rfl (fun j τ w' hj hJ => by have c := HGE.out w' hJ; simp [rho, upd, Spec.val, execOp, go_sem, c]) ?_
                      refine RXl.exact (.bool false) rfl rfl rfl rfl rfl (fun j τ w' hj hJ => by simp [rho, upd, Spec.val, execOp, go_sem]) ?_
                      refine RXl.exact (.bool false) rfl rfl rfl rfl rfl (fun _ _ _ _ _ => rfl) ?_
                      refine RXl.exact (.int .i64 ↑k) rfl rfl rfl rfl rfl (fun _ _ _ _ _ => rfl) ?_
                      refine RXl.exact (.pointer (some ⟨g2, k, none⟩)) rfl rfl rfl rfl rfl (fun j τ w' hj hJ => by simp [rho, upd, Spec.val, execOp, go_sem, hkI]) ?_
                      refine RXl.exact (pp pk) rfl rfl rfl rfl rfl (fun j τ w' hj hJ => by have c := HGE.out w' hJ; simp [rho, upd, Spec.val, execOp, go_sem, c]) ?_
                      refine RXl.callr (.bool (!tg9)) _ [pp pk] [.tmp 246] _ rfl rfl rfl rfl rfl rfl (fun _ => rfl) (fun j τ w' hj hJ => (HRC.out w' _ hJ).2.1) ?_
                      refine RXl.exact (.pointer (some ⟨wb', 0, none⟩)) rfl rfl rfl rfl rfl (fun _ _ _ _ _ => rfl) ?_
                      refine RXl.exact (.int .i64 ↑k) rfl rfl rfl rfl rfl (fun _ _ _ _ _ => rfl) ?_
                      refine RXl.exact (.pointer (some ⟨wb', 0, none⟩)) rfl rfl rfl rfl rfl (fun j τ w' hj hJ => by simp [rho, upd, Spec.val, execOp, go_sem]) ?_
                      refine RXl.exact (.pointer (some ⟨wb', 0, none⟩)) rfl rfl rfl rfl rfl (fun j τ w' hj hJ => by simp [rho, upd, Spec.val, execOp, go_sem]) ?_
                      refine RXl.exact (.pointer (some ⟨wb', k, none⟩)) rfl rfl rfl rfl rfl (fun j τ w' hj hJ => by simp [rho, upd, Spec.val, execOp, go_sem, hkI]) ?_
                      refine RXl.exact (.pointer (some ⟨qk, 0, none⟩)) rfl rfl rfl rfl rfl (fun j τ w' hj hJ => by have c := (HRC.out w' _ hJ).1.1; simp [rho, upd, Spec.val, execOp, go_sem, c]) ?_
                      refine RXl.exact (.pointer (some ⟨qk, 0, none⟩)) rfl rfl rfl rfl rfl (fun j τ w' hj hJ => by simp [rho, upd, Spec.val, execOp, go_sem]) ?_
                      refine RXl.exact (.pointer (some ⟨qk, 2, none⟩)) rfl rfl rfl rfl rfl (fun j τ w' hj hJ => by simp [rho, upd, Spec.val, execOp, go_sem]) ?_
                      refine RXl.exact (.bool (!tg9)) rfl rfl rfl rfl rfl (fun j τ w' hj hJ => by have c := (HRC.out w' _ hJ).1.2.2.1; simp [rho, upd, Spec.val, execOp, go_sem, c]) ?_
                      refine RXl.exact (.bool false) rfl rfl rfl rfl rfl (fun j τ w' hj hJ => by simp [rho, upd, Spec.val, execOp, go_sem]) ?_
                      refine RXl.exact (.bool false) rfl rfl rfl rfl rfl (fun _ _ _ _ _ => rfl) ?_
                      refine RXl.nilx _ (Agr.upd _ _ (Agr.upd _ _ (Agr.upd _ _ (Agr.upd _ _ (Agr.upd _ _ (Agr.upd _ _ (Agr.upd _ _ (Agr.upd _ _ (Agr.upd _ _ (Agr.upd _ _ (Agr.upd _ _ (Agr.upd _ _ (Agr.upd _ _ (Agr.upd _ _ (Agr.upd _ _ (Agr.upd _ _ (Agr.upd _ _ (Agr.upd _ _ (Agr.upd _ _ (Agr.upd _ _ (Agr.base _))))))))))))))))))))) fun w14 hJ => ?_
                      obtain ⟨_, hJ⟩ := hJ
                      simp only [Act.put, List.setIfInBounds_toArray, List.set_cons_succ, List.set_cons_zero]
                      have S14 := Lib.hid hJ
                      have Q14 := Lib.hid (HRC.out _ _ hJ).2.2
                      have u0 := HGE.out _ hJ
                      clear hJ S13
                      go_wp2_with fail
                      refine Q14.out.mono ?_
                      rintro e w15 ⟨a15, c15, he15, s15⟩
                      cases tg9 with
                      | true =>
                        have he15 : e = .returned (.tuple #[.slice a15 0 c15, .int .i64 5]) := he15
                        subst he15
                        have S15 := Lib.hid (ht_x s15)
                        clear s15 Q14 S14 u0
                        go_wp2_with fail
                        refine wp_region_rx (fun _ w => St w0.heap.size w0 w (Htt fb rfb tb' wb' p0 p1 p2 q0 q1 q2 nr' Tz Fz nr' Tz Fz (row 5 1 (.slice a15 (tBytes ⟨tb9, tl9, true⟩).length c15) (tBytes ⟨tb9, tl9, true⟩).length (bvs (tBytes ⟨tb9, tl9, true⟩)) * (pts g2 (.cells #[pp p0, pp p1, pp p2] 43) * emp)))) [] mixed (by kernel_rfl) (by kernel_rfl) S15.out.drew ?_
                        refine RXl.exact (.pointer (some ⟨wb', 0, none⟩)) rfl rfl rfl rfl rfl (fun _ _ _ _ _ => rfl) ?_
                        refine RXl.exact (.int .i64 ↑k) rfl rfl rfl rfl rfl (fun _ _ _ _ _ => rfl) ?_
                        refine RXl.exact (.pointer (some ⟨wb', 0, none⟩)) rfl rfl rfl rfl rfl (fun j τ w' hj hJ => by simp [rho, upd, Spec.val, execOp, go_sem]) ?_
                        refine RXl.exact (.pointer (some ⟨wb', 0, none⟩)) rfl rfl rfl rfl rfl (fun j τ w' hj hJ => by simp [rho, upd, Spec.val, execOp, go_sem]) ?_
                        refine RXl.exact (.pointer (some ⟨wb', k, none⟩)) rfl rfl rfl rfl rfl (fun j τ w' hj hJ => by simp [rho, upd, Spec.val, execOp, go_sem, hkI]) ?_
                        refine RXl.exact (.pointer (some ⟨qk, 0, none⟩)) rfl rfl rfl rfl rfl (fun j τ w' hj hJ => by have c := (HRC.out w' _ hJ).1.1; simp [rho, upd, Spec.val, execOp, go_sem, c]) ?_
                        refine RXl.exact (.pointer (some ⟨qk, 0, none⟩)) rfl rfl rfl rfl rfl (fun j τ w' hj hJ => by simp [rho, upd, Spec.val, execOp, go_sem]) ?_
                        refine RXl.exact (.pointer (some ⟨qk, 2, none⟩)) rfl rfl rfl rfl rfl (fun j τ w' hj hJ => by simp [rho, upd, Spec.val, execOp, go_sem]) ?_
                        refine RXl.exact (.bool false) rfl rfl rfl rfl rfl (fun j τ w' hj hJ => by have c := (HRC.out w' _ hJ).1.2.2.1; simp [rho, upd, Spec.val, execOp, go_sem, c]) ?_
                        refine RXl.exact (.bool false) rfl rfl rfl rfl rfl (fun _ _ _ _ _ => rfl) ?_
                        refine RXl.skip rfl rfl rfl rfl ?_
                        refine RXl.skip rfl rfl rfl rfl ?_
                        refine RXl.skip rfl rfl rfl rfl ?_
                        refine RXl.skip rfl rfl rfl rfl ?_
                        refine RXl.skip rfl rfl rfl rfl ?_
                        refine RXl.skip rfl rfl rfl rfl ?_
                        refine RXl.skip rfl rfl rfl rfl ?_
                        refine RXl.skip rfl rfl rfl rfl ?_
                        refine RXl.skip rfl rfl rfl rfl ?_
                        refine RXl.skip rfl rfl rfl rfl ?_
                        refine RXl.skip rfl rfl rfl rfl ?_
                        refine RXl.skip rfl rfl rfl rfl ?_
                        refine RXl.skip rfl rfl rfl rfl ?_
                        refine RXl.skip rfl rfl rfl rfl ?_
                        refine RXl.skip rfl rfl rfl rfl ?_
                        refine RXl.skip rfl rfl rfl rfl ?_
                        refine RXl.exact (.bool false) rfl rfl rfl rfl rfl (fun _ _ _ _ _ => rfl) ?_
                        refine RXl.nilx _ (Agr.upd _ _ (Agr.upd _ _ (Agr.upd _ _ (Agr.upd _ _ (Agr.upd _ _ (Agr.upd _ _ (Agr.upd _ _ (Agr.upd _ _ (Agr.upd _ _ (Agr.upd _ _ (Agr.upd _ _ (Agr.upd _ _ (Agr.upd _ _ (Agr.upd _ _ (Agr.upd _ _ (Agr.upd _ _ (Agr.upd _ _ (Agr.upd _ _ (Agr.upd _ _ (Agr.upd _ _ (Agr.upd _ _ (Agr.upd _ _ (Agr.upd _ _ (Agr.upd _ _ (Agr.upd _ _ (Agr.upd _ _ (Agr.upd _ _ (Agr.base _)))))))))))))))))))))))))))) fun w16 hJ => ?_
                        obtain ⟨_, hJ⟩ := hJ
                        simp only [Act.put, List.setIfInBounds_toArray, List.set_cons_succ, List.set_cons_zero]
                        have S16 := Lib.hid (ht_y hJ).right
                        clear hJ S15
                        go_wp2_with fail
                        go_roundw
                        case rel => exact ⟨k + 1, by omega, by go_num, S16.out⟩
                        case measure => (simp [intOf] <;> omega)
                      | false =>
                        have he15 : e = .returned (.tuple #[.slice a15 tb9.length c15, .int .i64 0]) := he15
                        subst he15
                        have S15 := Lib.hid (show St w0.heap.size w0 w15 (Htt fb rfb tb' wb' p0 p1 p2 q0 q1 q2 nr' Tz Fz nr' Tz Fz (row 5 1 (.slice a15 tb9.length c15) tb9.length (bvs tb9) * (pts g2 (.cells #[pp p0, pp p1, pp p2] 43) * emp))) from ht_x s15)
                        clear s15 Q14 S14 u0
                        go_wp2_with fail
                        refine wp_region_rx (fun _ w => St w0.heap.size w0 w (Htt fb rfb tb' wb' p0 p1 p2 q0 q1 q2 nr' Tz Fz nr' Tz Fz (row 5 1 (.slice a15 tb9.length c15) tb9.length (bvs tb9) * (pts g2 (.cells #[pp p0, pp p1, pp p2] 43) * emp)))) [] mixed (by kernel_rfl) (by kernel_rfl) S15.out.drew ?_
                        refine RXl.exact (.pointer (some ⟨wb', 0, none⟩)) rfl rfl rfl rfl rfl (fun _ _ _ _ _ => rfl) ?_
                        refine RXl.exact (.int .i64 ↑k) rfl rfl rfl rfl rfl (fun _ _ _ _ _ => rfl) ?_
                        refine RXl.exact (.pointer (some ⟨wb', 0, none⟩)) rfl rfl rfl rfl rfl (fun j τ w' hj hJ => by simp [rho, upd, Spec.val, execOp, go_sem]) ?_
                        refine RXl.exact (.pointer (some ⟨wb', 0, none⟩)) rfl rfl rfl rfl rfl (fun j τ w' hj hJ => by simp [rho, upd, Spec.val, execOp, go_sem]) ?_
                        refine RXl.exact (.pointer (some ⟨wb', k, none⟩)) rfl rfl rfl rfl rfl (fun j τ w' hj hJ => by simp [rho, upd, Spec.val, execOp, go_sem, hkI]) ?_
                        refine RXl.exact (.pointer (some ⟨qk, 0, none⟩)) rfl rfl rfl rfl rfl (fun j τ w' hj hJ => by have c := (HRC.out w' _ hJ).1.1; simp [rho, upd, Spec.val, execOp, go_sem, c]) ?_
                        refine RXl.exact (.pointer (some ⟨qk, 0, none⟩)) rfl rfl rfl rfl rfl (fun j τ w' hj hJ => by simp [rho, upd, Spec.val, execOp, go_sem]) ?_
                        refine RXl.exact (.pointer (some ⟨qk, 2, none⟩)) rfl rfl rfl rfl rfl (fun j τ w' hj hJ => by simp [rho, upd, Spec.val, execOp, go_sem]) ?_
                        refine RXl.exact (.bool true) rfl rfl rfl rfl rfl (fun j τ w' hj hJ => by have c := (HRC.out w' _ hJ).1.2.2.1; simp [rho, upd, Spec.val, execOp, go_sem, c]) ?_
                        refine RXl.exact (.bool true) rfl rfl rfl rfl rfl (fun _ _ _ _ _ => rfl) ?_
                        refine RXl.exact (.int .i64 0) rfl rfl rfl rfl rfl (fun _ _ _ _ _ => rfl) ?_
                        refine RXl.exact (.bool false) rfl rfl rfl rfl rfl (fun j τ w' hj hJ => by simp [rho, upd, Spec.val, execOp, go_sem]) ?_
                        refine RXl.exact (.bool false) rfl rfl rfl rfl rfl (fun _ _ _ _ _ => rfl) ?_
                        refine RXl.exact (.slice a15 tb9.length c15) rfl rfl rfl rfl rfl (fun _ _ _ _ _ => rfl) ?_
                        refine RXl.exact (str tb9) rfl rfl rfl rfl rfl (fun j τ w' hj hJ => exec_convert rfl (run_str Try.underlying23 Try.underlying5 Try.underlying9 (St.bs (ht_y hJ)))) ?_
                        refine RXl.exact (.pointer (some ⟨wb', 0, none⟩)) rfl rfl rfl rfl rfl (fun _ _ _ _ _ => rfl) ?_
                        refine RXl.exact (.int .i64 ↑k) rfl rfl rfl rfl rfl (fun _ _ _ _ _ => rfl) ?_
                        refine RXl.exact (.pointer (some ⟨wb', 0, none⟩)) rfl rfl rfl rfl rfl (fun j τ w' hj hJ => by simp [rho, upd, Spec.val, execOp, go_sem]) ?_
                        refine RXl.exact (.pointer (some ⟨wb', 0, none⟩)) rfl rfl rfl rfl rfl (fun j τ w' hj hJ => by simp [rho, upd, Spec.val, execOp, go_sem]) ?_
                        refine RXl.exact (.pointer (some ⟨wb', k, none⟩)) rfl rfl rfl rfl rfl (fun j τ w' hj hJ => by simp [rho, upd, Spec.val, execOp, go_sem, hkI]) ?_
                        refine RXl.exact (.pointer (some ⟨qk, 0, none⟩)) rfl rfl rfl rfl rfl (fun j τ w' hj hJ => by have c := (HRC.out w' _ hJ).1.1; simp [rho, upd, Spec.val, execOp, go_sem, c]) ?_
                        refine RXl.exact (.pointer (some ⟨qk, 0, none⟩)) rfl rfl rfl rfl rfl (fun j τ w' hj hJ => by simp [rho, upd, Spec.val, execOp, go_sem]) ?_
                        refine RXl.exact (.pointer (some ⟨qk, 0, none⟩)) rfl rfl rfl rfl rfl (fun j τ w' hj hJ => by simp [rho, upd, Spec.val, execOp, go_sem]) ?_
                        refine RXl.exact (str tb9) rfl rfl rfl rfl rfl (fun j τ w' hj hJ => by have c := (HRC.out w' _ hJ).1.2.1; simp [rho, upd, Spec.val, execOp, go_sem, c]) ?_
                        refine RXl.exact (.bool false) rfl rfl rfl rfl rfl (fun j τ w' hj hJ => by simp [rho, upd, Spec.val, execOp, go_sem]) ?_
                        refine RXl.exact (.bool false) rfl rfl rfl rfl rfl (fun _ _ _ _ _ => rfl) ?_
                        refine RXl.exact (.bool false) rfl rfl rfl rfl rfl (fun _ _ _ _ _ => rfl) ?_
                        refine RXl.nilx _ (Agr.upd _ _ (Agr.upd _ _ (Agr.upd _ _ (Agr.upd _ _ (Agr.upd _ _ (Agr.upd _ _ (Agr.upd _ _ (Agr.upd _ _ (Agr.upd _ _ (Agr.upd _ _ (Agr.upd _ _ (Agr.upd _ _ (Agr.upd _ _ (Agr.upd _ _ (Agr.upd _ _ (Agr.upd _ _ (Agr.upd _ _ (Agr.upd _ _ (Agr.upd _ _ (Agr.upd _ _ (Agr.upd _ _ (Agr.upd _ _ (Agr.upd _ _ (Agr.upd _ _ (Agr.upd _ _ (Agr.upd _ _ (Agr.upd _ _ (Agr.base _)))))))))))))))))))))))))))) fun w16 hJ => ?_
                        obtain ⟨_, hJ⟩ := hJ
                        simp only [Act.put, List.setIfInBounds_toArray, List.set_cons_succ, List.set_cons_zero]
                        have S16 := Lib.hid (ht_y hJ).right
                        clear hJ S15
                        go_wp2_with fail
                        go_roundw
                        case rel => exact ⟨k + 1, by omega, by go_num, S16.out⟩
                        case measure => (simp [intOf] <;> omega)
                    · obtain rfl : k = 3 := by omega
                      have S13 := Lib.hid (ht_y s13).right
                      clear s13 hlt hk
                      go_wp2_with fail
                      go_roundw
                      case rel => exact ⟨j + 1, by omega, by omega, by go_num, tb', wb', nr', Tz, Fz, rfl, rfl, by have := HNR.out; omega, HOK.out, S13.out⟩
                      case measure => (simp [intOf] <;> omega)
        · have hend : l.length ≤ j ∨ j < l.length ∧ 50 ≤ j := by omega
          clear hlt
          rcases hend with hend | ⟨hend, hend2⟩
          all_goals
            go_wp2_with fail
            go_ret
            exact ⟨rfl, S7.out.below⟩
end Go.Proofs.Ytkkkncchinejmaa.TrV
