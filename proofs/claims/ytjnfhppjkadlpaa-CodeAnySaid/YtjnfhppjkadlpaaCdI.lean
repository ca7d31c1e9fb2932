/- Codes: Decode, walked. No condition. -/
import Derived.Test.YtjnfhppjkadlpaaCdH
import Derived.Test.YtjnfhppjkadlpaaCdN
import Derived.Test.YtjnfhppjkadlpaaMgB
set_option linter.unusedSimpArgs false
set_option linter.unusedVariables false
namespace Go.Proofs.Ytjnfhppjkadlpaa.Cd
open Go Go.RowKit Go.Proofs.Ytjnfhppjkadlpaa Go.Proofs.Ytjnfhppjkadlpaa.Sp Go.Proofs.Ytjnfhppjkadlpaa.Reg Go.Proofs.Ytjnfhppjkadlpaa.Rd Go.Proofs.Ytjnfhppjkadlpaa.Obr Go.Proofs.Ytjnfhppjkadlpaa.Gf Go.Proofs.Ytjnfhppjkadlpaa.Mt
/-- What is appended to: the data themselves first, then a row of its own. -/
def outP (g k : Nat) (X : Value) (j : Nat) (xs : List Value) : HP := if j = 0 then pur (X = .slice (some ⟨g, 0, none⟩) k k) else row 32 1 X (k + j) xs
section
variable {B : Nat} {w0 w : World} {R : HP}
theorem outP_slice {g k : Nat} {X : Value} {j : Nat} {xs : List Value} (s : St B w0 w (outP g k X j xs * R)) : ∃ a c, X = .slice a (k + j) c := by
  unfold outP at s
  split at s
  · rename_i h
    subst h
    exact ⟨_, _, (St.pu.1 s).1⟩
  · obtain ⟨a, c, h, -⟩ := s.rowSlice
    exact ⟨a, c, h⟩
variable {ops : Array Oper} {rest : List Oper} {o : Oper} {a : Act} {Q : Exit → Act → World → Prop}
theorem wpl_out {g k : Nat} {X : Value} {j : Nat} {vd vx : List Value} {u : Value} (hg : o.guard = none) (so xo : Operand) (hop : o.op = .call { callee := .builtin .append, args := #[so, xo], argTypes := #[38, 38] })
    (hk : k ≤ 1000) (hj : j ≤ 1000) (hvd : vd.length = k) (hvx : vx.length = j) (s : St B w0 w (outP g k X j (vd ++ vx) * (row 32 1 (.slice (some ⟨g, 0, none⟩) k k) k vd * R))) (ax : Option Addr) (hs : a.eval so = X) (hx : a.eval xo = .slice ax 1 1)
    (hr : Rd w ax [u]) (hnone : ax ≠ none) (h1 : u.oneCell' = true)
    (hK : ∀ v' w', St B w0 w' (outP g k v' (j + 1) (vd ++ (vx ++ [u])) * (row 32 1 (.slice (some ⟨g, 0, none⟩) k k) k vd * R)) → wpList Try.prog ops Q rest (a.put o.dst v') w') :
    wpList Try.prog ops Q (o :: rest) a w := by
  unfold outP at s
  by_cases h0 : j = 0
  · rw [if_pos h0] at s
    obtain ⟨rfl, s1⟩ := St.pu.1 s
    have e0 : vx = [] := List.eq_nil_of_length_eq_zero (by omega)
    subst e0
    refine wpl_append_full hg so xo hop tBB s1 g 0 (by rw [Nat.mul_one]; exact hvd) s1.rowRd ax 1 1 (by omega) [u] hs hx hr rfl (by unfold maxLen; omega) (by omega) fun g' c' w' s2 => ?_
    refine hK _ w' ?_
    unfold outP
    rw [if_neg (by omega), h0, List.nil_append]
    exact s2
  · rw [if_neg h0] at s
    refine wpl_append hg so xo hop tBB s ax 1 1 [u] hs hx hr (fun e => absurd e hnone) rfl (fun v hv => by cases List.mem_singleton.1 hv; exact h1) (by unfold maxLen; omega) (by omega) fun v' w' s2 _ => ?_
    refine hK _ w' ?_
    unfold outP
    rw [if_neg (by omega), ← List.append_assoc]
    exact s2
end
section
variable {B : Nat} {w0 : World} {R : HP}
set_option maxRecDepth 100000 in
set_option maxHeartbeats 16000000 in
theorem decode_bad (p fb : Nat) (xs ys : List UInt8) (hx : xs.length ≤ 14) (hy : ys.length ≤ 4) (v : Value) (l : Shs) (hl : l.length ≤ 1000) (hb : l.length ≠ xs.length + ys.length ∨ lgb l = false) (w : World)
    (hr : SRd B w0 R v l) (s : St B w0 w (cd p fb xs ys * R)) :
    Calls Try.prog 28 #[pp p, v] w (RetG B w0 (cd p fb xs ys * R) (.tuple #[.slice none 0 0, .int .i64 1])) := by
  obtain ⟨A, c, vs, rfl, -⟩ := id hr
  have S := Lib.hid s
  clear s
  go_enter Try.func28, Try.ntmps28
  go_wp2_with fail
  refine (size_calls p fb xs ys w S.out).mono ?_
  rintro e w1 ⟨rfl, s1⟩
  clear S
  have S1 := Lib.hid s1
  clear s1
  go_wp2_with fail
  refine (long_calls _ l (by omega) w1 (hr.of (X := cd p fb xs ys) rfl) S1.out).mono ?_
  rintro e w2 ⟨rfl, s2⟩
  clear S1
  have S2 := Lib.hid s2
  clear s2
  by_cases h1 : l.length = xs.length + ys.length
  · have h2 : lgb l = false := by rcases hb with h | h; exact absurd h1 h; exact h
    rw [h2]
    have h1I : (l.length : Int) = (xs.length : Int) + (ys.length : Int) := by omega
    clear h1 hb
    generalize lgn l = z at *
    go_wp2_with fail
    go_ret2
    exact ⟨rfl, S2.out⟩
  · have h1I : ¬ (l.length : Int) = (xs.length : Int) + (ys.length : Int) := by omega
    clear h1 hb
    generalize lgn l = z at *
    generalize lgb l = z2 at *
    generalize l.length = z3 at *
    go_wp2_with fail
    go_ret2
    exact ⟨rfl, S2.out⟩
set_option maxRecDepth 100000 in
set_option maxHeartbeats 16000000 in
theorem decode_lost (p fb : Nat) (xs ys : List UInt8) (hx : xs.length ≤ 14) (hy : ys.length ≤ 4) (v : Value) (l : Shs) (hl : l.length = xs.length + ys.length) (hb : lgb l = true) (ht : (thr l l.length).length < xs.length) (w : World)
    (hr : SRd B w0 R v l) (s : St B w0 w (cd p fb xs ys * R)) :
    Calls Try.prog 28 #[pp p, v] w (RetG B w0 (cd p fb xs ys * R) (.tuple #[.slice none 0 0, .int .i64 3])) := by
  obtain ⟨A, c, vs, rfl, -⟩ := id hr
  have HR := Lib.hid hr
  have HL := Lib.hid hl
  have HT := Lib.hid ht
  have HB := Lib.hid hb
  have S := Lib.hid s
  clear s
  clear hr hl ht hb
  go_enter Try.func28, Try.ntmps28
  go_wp2_with fail
  refine (size_calls p fb xs ys w S.out).mono ?_
  rintro e w1 ⟨rfl, s1⟩
  clear S
  have S1 := Lib.hid s1
  clear s1
  go_wp2_with fail
  refine (long_calls _ l (by have := HL.out; omega) w1 (HR.out.of (X := cd p fb xs ys) rfl) S1.out).mono ?_
  rintro e w2 ⟨rfl, s2⟩
  clear S1
  have S2 := Lib.hid s2
  clear s2
  rw [HB.out]
  have h1I : (l.length : Int) = (xs.length : Int) + (ys.length : Int) := by have := HL.out; omega
  generalize lgn l = z at *
  go_wp2_with fail
  refine (there_calls _ l (by have := HL.out; omega) w2 (HR.out.of (X := cd p fb xs ys) rfl) S2.out).mono ?_
  rintro e w3 ⟨v3, rfl, s3⟩
  obtain ⟨a3, c3, rfl, -⟩ := s3.rowSlice
  clear S2
  have S3 := Lib.hid s3
  clear s3
  have htI : ((thr l l.length).length : Int) < (xs.length : Int) := by have := HT.out; omega
  generalize (thr l l.length).length = z3 at *
  go_wp2_with fail
  go_ret2
  exact ⟨rfl, S3.out.right⟩
end
end Go.Proofs.Ytjnfhppjkadlpaa.Cd
