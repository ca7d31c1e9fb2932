/- Gauss and Jordan, plain: what is found is the inverse, from both sides; where none is found, something that is no nought is sent to nought. Program-free. -/
import Derived.Test.YtjnfhppjkadlpaaMtW6
namespace Go.Proofs.Ytjnfhppjkadlpaa.Mt
open Go Go.RowKit Go.Proofs.Ytjnfhppjkadlpaa Go.Proofs.Ytjnfhppjkadlpaa.Sp Go.Proofs.Ytjnfhppjkadlpaa.Gf
theorem xor_self8 (a : UInt8) : a ^^^ a = 0 := UInt8.xor_self
theorem gmul_xor_r (a b c : UInt8) : gmul (a ^^^ b) c = gmul a c ^^^ gmul b c := by rw [gmul_comm, gmul_xor, gmul_comm c a, gmul_comm c b]
theorem gmul_zero_iff {a b : UInt8} (h : gmul a b = 0) (hb : b ≠ 0) : a = 0 := by
  by_cases ha : a = 0
  · exact ha
  · exact absurd h (gmul_nz ha hb)
theorem xor_left_comm8 (a b c : UInt8) : a ^^^ (b ^^^ c) = b ^^^ (a ^^^ c) := by rw [← UInt8.xor_assoc, UInt8.xor_comm a b, UInt8.xor_assoc]
theorem sm_xor (n : Nat) (f g : Nat → UInt8) : sm n (fun k => f k ^^^ g k) = sm n f ^^^ sm n g := by
  induction n with
  | zero => exact (by decide : (0 : UInt8) = 0 ^^^ 0)
  | succ n ih =>
    show sm n _ ^^^ (f n ^^^ g n) = (sm n f ^^^ f n) ^^^ (sm n g ^^^ g n)
    rw [ih]
    simp only [UInt8.xor_assoc]
    rw [xor_left_comm8 (sm n g) (f n)]
theorem sm_mul_r (n : Nat) (f : Nat → UInt8) (t : UInt8) : gmul (sm n f) t = sm n fun k => gmul (f k) t := by
  induction n with
  | zero => exact zero_gmul t
  | succ n ih => show gmul (sm n f ^^^ f n) t = sm n _ ^^^ gmul (f n) t; rw [gmul_xor_r, ih]
theorem sm_mul_l (n : Nat) (f : Nat → UInt8) (t : UInt8) : gmul t (sm n f) = sm n fun k => gmul t (f k) := by
  rw [gmul_comm, sm_mul_r]
  exact sm_congr fun k _ => gmul_comm _ _
theorem sm_zero (n : Nat) : sm n (fun _ => 0) = 0 := by
  induction n with
  | zero => rfl
  | succ n ih => show sm n _ ^^^ 0 = 0; rw [ih]; rfl
theorem sm_swap (n m : Nat) (F : Nat → Nat → UInt8) : sm n (fun i => sm m (F i)) = sm m fun j => sm n fun i => F i j := by
  induction n with
  | zero => exact (sm_zero m).symm
  | succ n ih =>
    show sm n _ ^^^ sm m (F n) = _
    rw [ih, ← sm_xor]
    rfl
theorem sm_single {n i : Nat} (hi : i < n) (g : Nat → UInt8) (h : ∀ k, k < n → k ≠ i → g k = 0) : sm n g = g i := by
  induction n with
  | zero => omega
  | succ n ih =>
    show sm n g ^^^ g n = g i
    by_cases e : i = n
    · subst e
      rw [show sm i g = 0 from (sm_congr fun k hk => h k (by omega) (by omega)).trans (sm_zero i), UInt8.zero_xor]
    · rw [ih (by omega) (fun k hk => h k (by omega)), h n (by omega) (by omega), UInt8.xor_zero]
theorem mmul_assoc (n m : Nat) (a b c : Mx) : mmul n (mmul m a b) c = mmul m a (mmul n b c) := by
  funext i j
  show sm n (fun k => gmul (sm m fun z => gmul (a i z) (b z k)) (c k j)) = sm m fun z => gmul (a i z) (sm n fun k => gmul (b z k) (c k j))
  have e1 : (fun k => gmul (sm m fun z => gmul (a i z) (b z k)) (c k j)) = fun k => sm m fun z => gmul (gmul (a i z) (b z k)) (c k j) := by
    funext k; exact sm_mul_r _ _ _
  have e2 : (fun z => gmul (a i z) (sm n fun k => gmul (b z k) (c k j))) = fun z => sm n fun k => gmul (gmul (a i z) (b z k)) (c k j) := by
    funext z
    rw [sm_mul_l]
    exact sm_congr fun k _ => gmul_assoc _ _ _
  rw [e1, e2, sm_swap]
theorem mmul_congr {n : Nat} {a a' b b' : Mx} {i j : Nat} (h1 : ∀ k, k < n → a i k = a' i k) (h2 : ∀ k, k < n → b k j = b' k j) : mmul n a b i j = mmul n a' b' i j :=
  sm_congr fun k hk => by rw [h1 k hk, h2 k hk]
theorem mmul_unit {n : Nat} (a : Mx) {i j : Nat} (hj : j < n) : mmul n a unit i j = a i j := by
  show sm n (fun k => gmul (a i k) (unit k j)) = a i j
  rw [sm_single hj _ (fun k _ hk => by show gmul _ (if k = j then 1 else 0) = 0; rw [if_neg hk, gmul_zero])]
  show gmul _ (if j = j then 1 else 0) = _
  rw [if_pos rfl, gmul_one]
theorem unit_mmul {n : Nat} (a : Mx) {i j : Nat} (hi : i < n) : mmul n unit a i j = a i j := by
  show sm n (fun k => gmul (unit i k) (a k j)) = a i j
  rw [sm_single hi _ (fun k _ hk => by show gmul (if i = k then 1 else 0) _ = 0; rw [if_neg (fun e => hk e.symm), zero_gmul])]
  show gmul (if i = i then 1 else 0) _ = _
  rw [if_pos rfl, one_gmul]
/-- A matrix at a column. -/
def mv (n : Nat) (a : Mx) (v : Nat → UInt8) (i : Nat) : UInt8 := sm n fun k => gmul (a i k) (v k)
theorem mv_mmul (n m : Nat) (a b : Mx) (v : Nat → UInt8) (i : Nat) : mv n (mmul m a b) v i = mv m a (mv n b v) i := by
  have h := congrFun (congrFun (mmul_assoc n m a b fun k _ => v k) i) 0
  exact h
/-- What is sent to nought is nought. -/
def Inj (n : Nat) (a : Mx) : Prop := ∀ v : Nat → UInt8, (∀ i, i < n → mv n a v i = 0) → ∀ i, i < n → v i = 0
theorem inj_unit (n : Nat) : Inj n unit := by
  intro v h i hi
  have := h i hi
  have e : mv n unit v i = v i := unit_mmul (fun k _ => v k) (j := 0) hi
  rw [← e]; exact this
theorem inj_congr {n : Nat} {a b : Mx} (h : Inj n a) (e : ∀ i j, i < n → j < n → a i j = b i j) : Inj n b := by
  intro v hv
  refine h v fun i hi => ?_
  rw [← hv i hi]
  exact sm_congr fun k hk => by rw [e i k hi hk]
theorem sw_sw (p k i : Nat) : sw p k (sw p k i) = i := by
  unfold sw
  by_cases h1 : i = p
  · subst h1
    rw [if_pos rfl]
    by_cases h2 : k = i
    · rw [if_pos h2, h2]
    · rw [if_neg h2, if_pos rfl]
  · rw [if_neg h1]
    by_cases h2 : i = k
    · subst h2; rw [if_pos rfl, if_pos rfl]
    · rw [if_neg h2, if_neg h1, if_neg h2]
theorem sw_lt {p k i n : Nat} (hp : p < n) (hk : k < n) (hi : i < n) : sw p k i < n := by unfold sw; split; exact hk; split; exact hp; exact hi
theorem inj_rsw {n p k : Nat} {a : Mx} (h : Inj n a) (hp : p < n) (hk : k < n) : Inj n (rsw a p k) := by
  intro v hv
  refine h v fun i hi => ?_
  have := hv (sw p k i) (sw_lt hp hk hi)
  rw [← this]
  show mv n a v i = mv n a v (sw p k (sw p k i))
  rw [sw_sw]
theorem mv_rsc (n : Nat) (a : Mx) (k : Nat) (t : UInt8) (v : Nat → UInt8) (i : Nat) : mv n (rsc a k t) v i = if i = k then gmul (mv n a v k) t else mv n a v i := by
  unfold mv rsc
  split
  · rw [sm_mul_r]
    exact sm_congr fun z _ => by rw [← gmul_assoc, gmul_comm t, gmul_assoc]
  · rfl
theorem inj_rsc {n k : Nat} {a : Mx} {t : UInt8} (h : Inj n a) (ht : t ≠ 0) : Inj n (rsc a k t) := by
  intro v hv
  refine h v fun i hi => ?_
  have := hv i hi
  rw [mv_rsc] at this
  by_cases e : i = k
  · rw [if_pos e] at this
    rw [e]
    exact gmul_zero_iff this ht
  · rwa [if_neg e] at this
theorem mv_elm (n : Nat) (a d : Mx) (c m : Nat) (v : Nat → UInt8) (i : Nat) : mv n (elm a d c m) v i = if i < m ∧ i ≠ c then mv n a v i ^^^ gmul (mv n a v c) (d i c) else mv n a v i := by
  unfold mv elm
  split
  · rw [sm_mul_r, ← sm_xor]
    exact sm_congr fun z _ => by rw [gmul_xor_r, ← gmul_assoc, ← gmul_assoc, gmul_comm (d i c)]
  · rfl
theorem inj_elm {n c m : Nat} {a d : Mx} (h : Inj n a) (hc : c < n) : Inj n (elm a d c m) := by
  intro v hv
  have h0 : mv n a v c = 0 := by
    have := hv c hc
    rw [mv_elm, if_neg (fun q => q.2 rfl)] at this
    exact this
  refine h v fun i hi => ?_
  have := hv i hi
  rw [mv_elm] at this
  split at this
  · rw [h0, zero_gmul, UInt8.xor_zero] at this; exact this
  · exact this
/-- What holds behind so many columns. -/
structure GI (n : Nat) (f : Mx) (k : Nat) (A Bm : Mx) : Prop where
  prod : ∀ i j, i < n → j < n → A i j = mmul n Bm f i j
  inj : Inj n Bm
  cols : ∀ i j, i < n → j < k → A i j = unit i j
theorem mm_mv (n : Nat) (a f : Mx) (i j : Nat) : mmul n a f i j = mv n a (fun k => f k j) i := rfl
theorem gj_gi {n : Nat} {f : Mx} : ∀ {k : Nat} {A Bm : Mx}, k ≤ n → gj n f k = some (A, Bm) → GI n f k A Bm
  | 0, A, Bm, _, h => by
    obtain ⟨rfl, rfl⟩ : f = A ∧ unit = Bm := by simpa [gj] using h
    exact ⟨fun i j hi hj => (unit_mmul _ hi).symm, inj_unit n, fun i j _ hj => absurd hj (Nat.not_lt_zero _)⟩
  | k + 1, A, Bm, hk, h => by
    cases hg : gj n f k with
    | none =>
      have := gj_none hg 1
      rw [this] at h
      cases h
    | some x =>
      obtain ⟨A0, B0⟩ := x
      obtain ⟨h1, h2, h3⟩ := gj_gi (by omega) hg
      obtain ⟨s1, s2, s3, s4⟩ := pvf_spec A0 k (n - k) k
      have hpn : pv A0 n k ≠ n := by
        intro e
        rw [gj_sing hg e] at h
        cases h
      have hlt : pv A0 n k < n := by
        have : pv A0 n k ≤ k + (n - k) := s2
        omega
      have hkp : k ≤ pv A0 n k := s1
      have hne : A0 (pv A0 n k) k ≠ 0 := s4 (show pv A0 n k < k + (n - k) by omega)
      have hx := gj_next hg rfl hpn
      rw [hx] at h
      generalize pv A0 n k = p at *
      have hv := ginv_ginv hne
      have e1 := (Option.some.inj h)
      obtain ⟨rfl, rfl⟩ : _ = A ∧ _ = Bm := Prod.mk.inj e1
      have hkn : k < n := by omega
      generalize hA2 : rsc (rsw A0 p k) k (ginv (A0 p k)) = A2
      have a2 : ∀ i j, i < n → j < n → A2 i j = mmul n (rsc (rsw B0 p k) k (ginv (A0 p k))) f i j := by
        intro i j hi hj
        rw [mm_mv, mv_rsc, ← hA2]
        unfold rsc
        split
        · show gmul (A0 (sw p k k) j) _ = gmul (mv n B0 _ (sw p k k)) _
          rw [h1 _ j (sw_lt hlt hkn hkn) hj]; rfl
        · show A0 (sw p k i) j = mv n B0 _ (sw p k i)
          rw [h1 _ j (sw_lt hlt hkn hi) hj]; rfl
      have c2 : ∀ i j, i < n → j < k → A2 i j = unit i j := by
        intro i j hi hj
        have u0 : ∀ q, k ≤ q → unit q j = 0 := fun q hq => if_neg (by omega)
        have b : A0 (sw p k i) j = unit i j := by
          rw [h3 _ j (sw_lt hlt hkn hi) hj]
          unfold sw
          by_cases q1 : i = p
          · rw [if_pos q1, q1, u0 k (Nat.le_refl _), u0 p hkp]
          · rw [if_neg q1]
            by_cases q2 : i = k
            · rw [if_pos q2, q2, u0 p hkp, u0 k (Nat.le_refl _)]
            · rw [if_neg q2]
        rw [← hA2]
        unfold rsc
        by_cases e : i = k
        · subst e
          rw [if_pos rfl]
          show gmul (A0 (sw p i i) j) _ = _
          rw [b, u0 i (Nat.le_refl _), zero_gmul]
        · rw [if_neg e]; exact b
      have ck : A2 k k = 1 := by
        rw [← hA2]
        show (if k = k then gmul (A0 (sw p k k) k) _ else _) = (1 : UInt8)
        rw [if_pos rfl, show sw p k k = p by unfold sw; split; assumption; rw [if_pos rfl], gmul_inv hne]
      refine ⟨fun i j hi hj => ?_, inj_elm (inj_rsc (inj_rsw h2 hlt hkn) hv.1) hkn, fun i j hi hj => ?_⟩
      · rw [mm_mv, mv_elm]
        unfold elm
        split
        · rw [a2 i j hi hj, a2 k j hkn hj]; rfl
        · rw [a2 i j hi hj]; rfl
      · unfold elm
        by_cases e : i < n ∧ i ≠ k
        · rw [if_pos e]
          by_cases ej : j = k
          · subst ej
            rw [ck, one_gmul, xor_self8]
            exact (if_neg e.2).symm
          · rw [c2 i j hi (by omega), c2 k j hkn (by omega), show unit k j = 0 from if_neg (fun q => ej q.symm), zero_gmul, UInt8.xor_zero]
        · rw [if_neg e]
          obtain rfl : i = k := by
            by_cases q : i = k
            · exact q
            · exact absurd ⟨hi, q⟩ e
          by_cases ej : j = i
          · subst ej
            rw [ck]
            exact (if_pos rfl).symm
          · exact c2 i j hi (by omega)
/-- Found: both products are the unit. -/
theorem gj_some {n : Nat} {f A Bm : Mx} (h : gj n f n = some (A, Bm)) : (∀ i j, i < n → j < n → mmul n Bm f i j = unit i j) ∧ (∀ i j, i < n → j < n → mmul n f Bm i j = unit i j) ∧ Inj n Bm := by
  obtain ⟨h1, h2, h3⟩ := gj_gi (Nat.le_refl n) h
  have hl : ∀ i j, i < n → j < n → mmul n Bm f i j = unit i j := fun i j hi hj => by rw [← h1 i j hi hj, h3 i j hi hj]
  refine ⟨hl, fun i j hi hj => ?_, h2⟩
  have key := h2 (fun z => mmul n f Bm z j ^^^ unit z j) (fun z hz => by
    have e1 : mv n Bm (fun z => mmul n f Bm z j ^^^ unit z j) z = mmul n Bm (mmul n f Bm) z j ^^^ mmul n Bm unit z j := by
      show sm n (fun q => gmul (Bm z q) (mmul n f Bm q j ^^^ unit q j)) = sm n _ ^^^ sm n _
      rw [← sm_xor]
      exact sm_congr fun q _ => gmul_xor _ _ _
    rw [e1, ← mmul_assoc, mmul_unit _ hj, mmul_congr (a' := unit) (b' := Bm) (fun q hq => hl z q hz hq) (fun _ _ => rfl), unit_mmul _ hz, xor_self8]) i hi
  have := congrArg (· ^^^ unit i j) key
  simpa [UInt8.xor_assoc] using this
/-- Not found: it sends something to nought. -/
theorem gj_fail {n : Nat} {f : Mx} : ∀ k, k ≤ n → gj n f k = none → ¬ Inj n f
  | 0, _, h => by cases h
  | k + 1, hk, h => by
    cases hg : gj n f k with
    | none => exact gj_fail k (by omega) hg
    | some x =>
      obtain ⟨A, Bm⟩ := x
      obtain ⟨h1, h2, h3⟩ := gj_gi (by omega) hg
      obtain ⟨s1, s2, s3, s4⟩ := pvf_spec A k (n - k) k
      have hp : pv A n k = n := by
        by_cases e : pv A n k = n
        · exact e
        · rw [gj_next hg rfl e] at h; cases h
      have hz : ∀ q, k ≤ q → q < n → A q k = 0 := fun q q1 q2 => s3 q q1 (show q < pv A n k by omega)
      intro hi
      have hv := hi (fun z => if z < k then A z k else if z = k then 1 else 0) ?_ k (by omega)
      · simp at hv
      · refine h2 _ fun i hi' => ?_
        rw [← mv_mmul]
        have e1 : mv n (mmul n Bm f) (fun z => if z < k then A z k else if z = k then 1 else 0) i = sm n fun z => gmul (A i z) (if z < k then A z k else if z = k then 1 else 0) :=
          sm_congr fun z hz' => by rw [h1 i z hi' hz']
        rw [e1]
        have e2 : (sm n fun z => gmul (A i z) (if z < k then A z k else if z = k then 1 else 0)) = (sm n fun z => if z = i then (if i < k then A i k else 0) else 0) ^^^ sm n fun z => if z = k then A i k else 0 := by
          rw [← sm_xor]
          refine sm_congr fun z _ => ?_
          by_cases q : z < k
          · rw [if_pos q, h3 i z hi' q]
            unfold unit
            rw [if_neg (show ¬ z = k by omega), UInt8.xor_zero]
            by_cases e : i = z
            · subst e; rw [if_pos rfl, if_pos rfl, if_pos q, one_gmul]
            · rw [if_neg e, if_neg (fun y => e y.symm), zero_gmul]
          · rw [if_neg q]
            have e0 : (if z = i then (if i < k then A i k else 0) else 0) = (0 : UInt8) := by
              by_cases e : z = i
              · rw [if_pos e, if_neg (by omega)]
              · rw [if_neg e]
            rw [e0, UInt8.zero_xor]
            by_cases e : z = k
            · rw [if_pos e, if_pos e, e, gmul_one]
            · rw [if_neg e, if_neg e, gmul_zero]
        rw [e2, sm_single hi' _ (fun z _ q => if_neg q), sm_single (show k < n by omega) _ (fun z _ q => if_neg q)]
        simp only [if_true]
        by_cases q : i < k
        · rw [if_pos q, xor_self8]
        · rw [if_neg q, hz i (by omega) hi']; rfl
theorem gj_of_inj {n : Nat} {f : Mx} (h : Inj n f) : ∃ A Bm, gj n f n = some (A, Bm) := by
  cases hg : gj n f n with
  | none => exact absurd h (gj_fail n (Nat.le_refl _) hg)
  | some x => exact ⟨x.1, x.2, rfl⟩
/-- Inverted twice. -/
theorem gj_twice {n : Nat} {f A Bm : Mx} (h : gj n f n = some (A, Bm)) : ∃ A' B', gj n Bm n = some (A', B') ∧ ∀ i j, i < n → j < n → B' i j = f i j := by
  obtain ⟨h1, h2, h3⟩ := gj_some h
  obtain ⟨A', B', h4⟩ := gj_of_inj h3
  obtain ⟨h5, -, -⟩ := gj_some h4
  refine ⟨A', B', h4, fun i j hi hj => ?_⟩
  have e1 : mmul n B' (mmul n Bm f) i j = B' i j := by
    rw [mmul_congr (a' := B') (b' := unit) (fun _ _ => rfl) (fun q hq => h1 q j hq hj), mmul_unit _ hj]
  have e2 : mmul n (mmul n B' Bm) f i j = f i j := by
    rw [mmul_congr (a' := unit) (b' := f) (fun q hq => h5 i q hi hq) (fun _ _ => rfl), unit_mmul _ hi]
  rw [← e1, ← mmul_assoc, e2]
end Go.Proofs.Ytjnfhppjkadlpaa.Mt
