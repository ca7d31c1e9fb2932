/- What 'm, e := mat.New(gf.New(), r, c, cells)' gives, in a region that draws its order. -/
import Derived.Test.YtfhphbpgiickfaaMtR
namespace Go.Proofs.Ytfhphbpgiickfaa.Mt
open Go Go.RowKit Go.Proofs.Ytfhphbpgiickfaa Go.Proofs.Ytfhphbpgiickfaa.Sp Go.Proofs.Ytfhphbpgiickfaa.Reg Go.Proofs.Ytfhphbpgiickfaa.Rd Go.Proofs.Ytfhphbpgiickfaa.Gf
def NF (k : Nat) (a : Nat × Nat × Nat × Nat) : Value := match k with
  | 0 => .pointer (some ⟨a.1, 0, none⟩)
  | 1 => .tuple #[.pointer (some ⟨a.2.1, 0, none⟩), .int .i64 0]
  | 2 => .tuple #[.pointer (some ⟨a.2.1, 0, none⟩), .int .i64 0]
  | _ => .pointer (some ⟨a.2.1, 0, none⟩)
def NH (r c : Nat) (f : Mx) (X : HP) (k : Nat) (a : Nat × Nat × Nat × Nat) : HP := match k with
  | 0 => fx a.1 * X
  | _ => mo a.2.1 a.2.2.1 a.2.2.2 a.1 r c f * (fx a.1 * X)
theorem NH_x {r c : Nat} {f : Mx} {X : HP} (j : Nat) (a : Nat × Nat × Nat × Nat) : ∃ Z, NH r c f X j a = X * Z := by
  match j with
  | 0 => exact ⟨_, sep_comm _ _⟩
  | _ + 1 => exact ⟨mo a.2.1 a.2.2.1 a.2.2.2 a.1 r c f * fx a.1, by unfold NH; ac_rfl⟩
section
variable {B : Nat} {w0 : World} {R : HP}
theorem NJ_x {r c : Nat} {f : Mx} {X : HP} {j : Nat} {vs : Nat → Value} {w : World} (h : PJ B w0 X NF (NH r c f X) j vs w) : ∃ Z, St B w0 w (X * Z) := by
  obtain ⟨Z, ⟨Z', rfl⟩, s⟩ := PJ.any (Y := fun Z => ∃ Z', Z = X * Z') ⟨emp, (sep_emp _).symm⟩ NH_x h
  exact ⟨Z', s⟩
theorem new_m (fb r c : Nat) (f : Mx) (a : Option Addr) (n ca : Nat) (hr : 1 ≤ r ∧ r ≤ 32) (hc : 1 ≤ c ∧ c ≤ 32) (w : World) (h : BS w (.slice a n ca) (cl r c f)) (s : St B w0 w R) :
    Calls Try.prog 27 #[.pointer (some ⟨fb, 0, none⟩), .int .i64 (r : Int), .int .i64 (c : Int), .slice a n ca] w fun e w' => ∃ b g cap, e = .returned (.tuple #[.pointer (some ⟨b, 0, none⟩), .int .i64 0]) ∧ St B w0 w' (mo b g cap fb r c f * R) := by
  refine (new_good fb r c a n ca (cl r c f) hr hc (cl_len _ _ _) w h s).mono ?_
  rintro e w' ⟨b, rfl, s⟩
  obtain ⟨g, cap, s⟩ := mt_open s
  exact ⟨b, g, cap, rfl, mo_congr s (cl_ofl (cl_len _ _ _))⟩
/-- The second call's part. -/
theorem NJ_new {r c : Nat} {f : Mx} {X : HP} {a0 : Act} {ops : Array Oper} {σ : Sig} {o : Oper} {ds : List Nat} {xs : List Operand} (a : Option Addr) (n ca : Nat) (hr : 1 ≤ r ∧ r ≤ 32) (hc : 1 ≤ c ∧ c ≤ 32) (h : Reads B w0 X (.slice a n ca) (cl r c f))
    (ha : ∀ ρ a' w, (∀ k' d', k' < 0 + 1 → ds[k']? = some d' → ρ (.tmp d') = NF k' a') → Agree ops a0.tmps.size σ o ρ w → xs.map ρ = [.pointer (some ⟨a'.1, 0, none⟩), .int .i64 (r : Int), .int .i64 (c : Int), .slice a n ca]) :
    ∀ ρ vs w, (∀ k' d', k' < 0 + 1 → ds[k']? = some d' → ρ (.tmp d') = vs k') → PJ B w0 X NF (NH r c f X) (0 + 1) vs w → Agree ops a0.tmps.size σ o ρ w → ∃ args, xs.map ρ = args ∧ (callFunc 27 args.toArray).run Try.prog w = .ok (.enter 27 args.toArray) w ∧
      Calls Try.prog 27 args.toArray w fun e w' => ∃ v, e = .returned v ∧ PJ B w0 X NF (NH r c f X) (0 + 1 + 1) (updv vs (0 + 1) v) w' :=
  PJ.call (fun a' => [.pointer (some ⟨a'.1, 0, none⟩), .int .i64 (r : Int), .int .i64 (c : Int), .slice a n ca]) ha (fun _ _ => rfl) fun a' w s => by
    have s : St B w0 w (fx a'.1 * X) := s
    refine (new_m a'.1 r c f a n ca hr hc w (h w (fx a'.1) s) s).mono ?_
    rintro e w1 ⟨b1, g1, k1, rfl, s1⟩
    exact ⟨(a'.1, b1, g1, k1), rfl, fun k hk => by (match k, hk with | 0, _ => rfl), s1⟩
end
end Go.Proofs.Ytfhphbpgiickfaa.Mt
