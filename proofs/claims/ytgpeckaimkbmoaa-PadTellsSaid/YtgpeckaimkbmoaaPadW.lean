/- The walks of package pad: Full, Part, and the law's awake. -/
import Derived.Test.YtgpeckaimkbmoaaSlW
import Derived.Lib.SlBytesConst
namespace Go.Proofs.Ytgpeckaimkbmoaa.PadW
open Go Go.RowKit Go.Proofs.Ytgpeckaimkbmoaa Go.Proofs.Ytgpeckaimkbmoaa.Sp Go.Proofs.Ytgpeckaimkbmoaa.Reg Go.Proofs.Ytgpeckaimkbmoaa.SlW

set_option maxHeartbeats 400000 in
theorem part_no (a : Option Addr) (n c : Nat) (i m : Int) (w : World) (hn : n ≤ maxLen) (hi : -9223372036854775808 ≤ i) (hi' : i ≤ 9223372036854775807)
   (h : ¬ (0 ≤ i ∧ 0 ≤ m ∧ i ≤ n ∧ m ≤ n - i)) :
    Calls Try.prog 22 #[.slice a n c, .int .i64 i, .int .i64 m] w (RetNo w) := by
  unfold maxLen at hn
  by_cases h1 : i < 0
  · go_enter Try.func22, Try.ntmps22
    go_wp2_with fail
    go_ret2
    exact ⟨rfl, Add.refl w⟩
  · by_cases h2 : m < 0
    · go_enter Try.func22, Try.ntmps22
      go_wp2_with fail
      go_ret2
      exact ⟨rfl, Add.refl w⟩
    · by_cases h3 : (n : Int) < i
      · go_enter Try.func22, Try.ntmps22
        go_wp2_with fail
        go_ret2
        exact ⟨rfl, Add.refl w⟩
      · have h4 : (n : Int) - i < m := by omega
        clear h
        go_enter Try.func22, Try.ntmps22
        go_wp2_with fail
        go_ret2
        exact ⟨rfl, Add.refl w⟩
set_option maxHeartbeats 400000 in
theorem part_yes (a : Option Addr) (c : Nat) (bs : List UInt8) (i m : Nat) (w : World) (hb : BS w (.slice a bs.length c) bs) (hsz : bs.length ≤ 140737488355328) (h1 : i ≤ bs.length) (h2 : m ≤ bs.length - i) :
    Calls Try.prog 22 #[.slice a bs.length c, .int .i64 i, .int .i64 m] w (RetBSok w ((bs.drop i).take m)) := by
  have hc := hb.rd.2.1
  have hsl : ∀ w, (Instr.sliceAt 22 (.slice a bs.length c) (some (.int .i64 ↑i)) (some (.int .i64 (↑i + ↑m))) none).run Try.prog w = .ok (.slice (subA a c i 1) m (c - i)) w := fun w => by
    have := run_slice_sl tB w a bs.length c (some (.int .i64 ↑i)) (some (.int .i64 ↑(i + m))) i (i + m) (.inr ⟨_, rfl⟩) (.inr ⟨_, rfl⟩) (by omega) (by omega)
    simpa [subA] using this
  have hbs : BS w (.slice (subA a c i 1) m (c - i)) ((bs.drop i).take m) := by
    have := hb.sub i (i + m) (by omega) (by omega)
    simpa using this
  have hlen : ((bs.drop i).take m).length = m := by simp; omega
  have HBS := Lib.hid hbs
  have HLEN := Lib.hid hlen
  clear hb hbs hc hlen
  go_enter Try.func22, Try.ntmps22
  go_wp2_with fail
  clear hsl
  have e := HLEN.out
  generalize hcs : (bs.drop i).take m = cs at e HBS ⊢
  subst e
  refine (clone_calls _ _ cs _ HBS.out (by omega) (St.init w)).mono ?_
  rintro e w' ⟨v', rfl, s, _⟩
  have S := Lib.hid s
  clear s
  go_wp2_with fail
  go_ret2
  exact ⟨v', rfl, S.out.below, by rw [hcs]; exact S.out.bs⟩
/-- What Full hands back. -/
def FullOk (B : Nat) (w0 : World) (R : HP) (bs : List UInt8) (e : Ending) (w' : World) : Prop :=
  ∃ v', e = .returned (.tuple #[v', .bool true]) ∧ St B w0 w' (row 5 1 v' 64 (bvs bs) * R) ∧ v' ≠ .slice none 0 0
set_option maxHeartbeats 400000 in
theorem full_no (a : Option Addr) (n c : Nat) (w : World) (h : 64 < n) : Calls Try.prog 31 #[.slice a n c] w (RetNo w) := by
  go_enter Try.func31, Try.ntmps31
  go_wp2_with fail
  go_ret2
  exact ⟨rfl, Add.refl w⟩
set_option maxHeartbeats 400000 in
theorem full_yes (a : Option Addr) (c : Nat) (bs : List UInt8) (w : World) (hb : BS w (.slice a bs.length c) bs) (hl : bs.length ≤ 64) {B : Nat} {w0 : World} {R : HP} (s : St B w0 w R) :
    Calls Try.prog 31 #[.slice a bs.length c] w (FullOk B w0 R (bs ++ List.replicate (64 - bs.length) 0)) := by
  have HB := Lib.hid hb
  have S := Lib.hid s
  obtain ⟨k, hk, hk2⟩ : ∃ k : Nat, (64 : Int) - (bs.length : Int) = (k : Int) ∧ bs.length + k = 64 := ⟨64 - bs.length, by omega, by omega⟩
  have K2 := Lib.hid hk2
  clear hb s hk2
  go_enter Try.func31, Try.ntmps31
  go_wp2_with fail
  refine (clone_calls _ _ bs _ HB.out (by omega) S.out).mono ?_
  rintro e w1 ⟨v1, rfl, s1, n1⟩
  have S1 := Lib.hid s1
  have N1 := Lib.hid n1
  clear s1 n1
  go_wp2_with (at_builtin; go_must (refine wpl_appendZ rfl _ _ rfl tB rfl rfl Try.underlying3 S1.out k rfl rfl (by have := K2.out; unfold maxLen; omega) (by have := K2.out; omega) ?_); intro v2 w2 s2 hv2; have S2 := Lib.hid s2; have V2 := Lib.hid hv2; clear s2 hv2)
  go_ret2
  have k2 := K2.out
  refine ⟨v2, rfl, ?_, fun e => ?_⟩
  · have e1 : bvs (bs ++ List.replicate (64 - bs.length) 0) = bvs bs ++ List.replicate k (.int .u8 0) := by
      rw [bvs_zeros, show 64 - bs.length = k by omega]; simp [bvs]
    rw [e1, ← k2]
    exact S2.out
  · obtain ⟨h1, h2⟩ := V2.out.1 e
    have := N1.out.1 h1
    subst this
    have q1 := HB.out.rd.2.1
    have q2 := HB.out.rd.2.2.2.1 rfl
    omega
set_option maxHeartbeats 400000 in
theorem awake_calls (w : World) : Calls Try.prog 21 #[] w fun e w' => e = .returned (.bool true) ∧ Add w w' := by
  have kc := fun (w : World) (C : Array Value) (n c : Nat) => Lib.run_convert_bytes_const (P := Try.prog) w 22 5 C n c Try.underlying22 Try.underlying5
  go_enter Try.func21, Try.ntmps21
  go_wp2_with fail
  refine (full_yes _ _ [1] _ (BS.lit w [1] 5 (0, 0) (by simp [maxLen])) (by simp) (St.init _)).mono ?_
  rintro e w1 ⟨v1, rfl, s1, n1⟩
  obtain ⟨h1, g, cap, rfl, -, -, hg, hcell, hfree, hbs, -⟩ := s1.rowB n1
  have hcell0 := hcell 0 (by simp)
  have H1 := Lib.hid ((Add.alloc w _).trans s1.below)
  clear s1 n1 hcell hbs hfree h1
  go_wp2_with fail
  refine (part_yes _ 3 [1, 2, 3] 1 2 _ (BS.lit w1 [1, 2, 3] 5 (0, 0) (by simp [maxLen])) (by simp) (by simp) (by simp)).mono ?_
  rintro e w2 ⟨v2, rfl, h2, b2⟩
  obtain ⟨a2, c2, rfl, hb2⟩ : ∃ a c, v2 = .slice a 2 c ∧ BS w2 (.slice a 2 c) [2, 3] := by
    obtain ⟨a, c, h, _⟩ := id b2
    exact ⟨a, c, h, h ▸ b2⟩
  have hs : (convert 22 9 (.slice a2 2 c2)).run Try.prog w2 = .ok (str [2, 3]) w2 := run_str Try.underlying22 Try.underlying5 Try.underlying9 hb2
  have hA := (Add.alloc w1 _).trans h2
  have hc := hA.cell hcell0
  have H2 := Lib.hid (H1.out.trans hA)
  clear hb2 b2 h2 hA hcell0 H1 kc
  go_wp2_with fail
  go_ret
  exact ⟨rfl, H2.out⟩
end Go.Proofs.Ytgpeckaimkbmoaa.PadW
