/- Records one behind the other, and what three tapes have alike: the plain law. Program-free; no condition. -/
namespace Go.Proofs.Ytkkkncchinejmaa.TrM
/-- The records that bytes begin with. -/
def splF : Nat → List UInt8 → List (List UInt8)
  | 0, _ => []
  | _ + 1, [] => []
  | f + 1, c :: r => if c.toNat = 0 ∨ 250 < c.toNat ∨ r.length < c.toNat then [] else r.take c.toNat :: splF f (r.drop c.toNat)
def spl (b : List UInt8) : List (List UInt8) := splF b.length b
/-- Records' bytes. -/
def jn1 (r : List UInt8) : List UInt8 := UInt8.ofNat r.length :: r
def jn (l : List (List UInt8)) : List UInt8 := (l.map jn1).flatten
/-- A record that may be. -/
def okr (r : List UInt8) : Prop := 1 ≤ r.length ∧ r.length ≤ 250
theorem jn_nil : jn [] = [] := rfl
theorem jn_cons (r : List UInt8) (l : List (List UInt8)) : jn (r :: l) = jn1 r ++ jn l := rfl
theorem jn_append (l m : List (List UInt8)) : jn (l ++ m) = jn l ++ jn m := by simp [jn]
theorem jn1_len (r : List UInt8) : (jn1 r).length = r.length + 1 := rfl
theorem jn_one (r : List UInt8) : jn [r] = jn1 r := by simp [jn]
theorem splF_any : ∀ (f g : Nat) (b : List UInt8), b.length ≤ f → b.length ≤ g → splF f b = splF g b
  | 0, g, b, hf, _ => by
    obtain rfl : b = [] := List.eq_nil_of_length_eq_zero (by omega)
    cases g <;> rfl
  | f + 1, 0, b, _, hg => by
    obtain rfl : b = [] := List.eq_nil_of_length_eq_zero (by omega)
    rfl
  | f + 1, g + 1, [], _, _ => rfl
  | f + 1, g + 1, c :: r, hf, hg => by
    simp only [splF]
    split
    · rfl
    · rw [splF_any f g (r.drop c.toNat) (by simp at *; omega) (by simp at *; omega)]
theorem spl_nil : spl [] = [] := rfl
theorem spl_cons (c : UInt8) (r : List UInt8) : spl (c :: r) = if c.toNat = 0 ∨ 250 < c.toNat ∨ r.length < c.toNat then [] else r.take c.toNat :: spl (r.drop c.toNat) := by
  show splF (r.length + 1) (c :: r) = _
  simp only [splF]
  split
  · rfl
  · rw [spl, splF_any r.length (r.drop c.toNat).length _ (by simp) (by simp)]
theorem spl_bad {c : UInt8} {r : List UInt8} (h : c.toNat = 0 ∨ 250 < c.toNat ∨ r.length < c.toNat) : spl (c :: r) = [] := by rw [spl_cons, if_pos h]
theorem spl_good {c : UInt8} {r : List UInt8} (h : ¬ (c.toNat = 0 ∨ 250 < c.toNat ∨ r.length < c.toNat)) : spl (c :: r) = r.take c.toNat :: spl (r.drop c.toNat) := by rw [spl_cons, if_neg h]
theorem spl_okF : ∀ (n : Nat) (b : List UInt8), b.length ≤ n → (∀ r ∈ spl b, okr r) ∧ ∃ t, b = jn (spl b) ++ t ∧ spl t = []
  | 0, b, h => by
    obtain rfl : b = [] := List.eq_nil_of_length_eq_zero (by omega)
    exact ⟨by simp [spl_nil], [], rfl, rfl⟩
  | n + 1, [], _ => ⟨by simp [spl_nil], [], rfl, rfl⟩
  | n + 1, c :: r, h => by
    by_cases hb : c.toNat = 0 ∨ 250 < c.toNat ∨ r.length < c.toNat
    · rw [spl_bad hb]
      exact ⟨by simp, c :: r, rfl, spl_bad hb⟩
    · rw [spl_good hb]
      obtain ⟨h1, t, h2, h3⟩ := spl_okF n (r.drop c.toNat) (by simp at *; omega)
      have hl : (r.take c.toNat).length = c.toNat := by rw [List.length_take]; omega
      refine ⟨fun x hx => ?_, t, ?_, h3⟩
      · rcases List.mem_cons.1 hx with rfl | hx
        · unfold okr; omega
        · exact h1 x hx
      · rw [jn_cons, jn1, hl, List.append_assoc, ← h2]
        simp
theorem spl_ok {b r : List UInt8} (h : r ∈ spl b) : okr r := (spl_okF _ b (Nat.le_refl _)).1 r h
theorem spl_rest (b : List UInt8) : ∃ t, b = jn (spl b) ++ t ∧ spl t = [] := (spl_okF _ b (Nat.le_refl _)).2
theorem ofNat_len {r : List UInt8} (h : okr r) : (UInt8.ofNat r.length).toNat = r.length := by
  rw [UInt8.toNat_ofNat']
  exact Nat.mod_eq_of_lt (by have := h.2; omega)
theorem spl_jn1 {r : List UInt8} (h : okr r) (t : List UInt8) : spl (jn1 r ++ t) = r :: spl t := by
  show spl (UInt8.ofNat r.length :: (r ++ t)) = _
  obtain ⟨h1, h2⟩ := id h
  rw [spl_good (by rw [ofNat_len h, List.length_append]; omega), ofNat_len h]
  simp
theorem spl_jn : ∀ {l : List (List UInt8)}, (∀ r ∈ l, okr r) → ∀ t, spl (jn l ++ t) = l ++ spl t
  | [], _, t => rfl
  | r :: l, h, t => by
    rw [jn_cons, List.append_assoc, spl_jn1 (h r (by simp)), spl_jn (fun x hx => h x (by simp [hx]))]
    rfl
theorem spl_jn0 {l : List (List UInt8)} (h : ∀ r ∈ l, okr r) : spl (jn l) = l := by
  have := spl_jn h []
  simpa [spl_nil] using this
/-- A beginning of a record's bytes, not all of them: there is none. -/
theorem spl_part {r : List UInt8} (h : okr r) {k : Nat} (hk : k < (jn1 r).length) : spl ((jn1 r).take k) = [] := by
  cases k with
  | zero => rfl
  | succ k =>
    rw [jn1_len] at hk
    show spl (UInt8.ofNat r.length :: r.take k) = []
    exact spl_bad (by rw [ofNat_len h, List.length_take]; omega)
/-- A beginning of records' bytes has a beginning of them. -/
theorem spl_take : ∀ {l : List (List UInt8)}, (∀ r ∈ l, okr r) → ∀ k, k ≤ (jn l).length →
    ∃ n, n ≤ l.length ∧ spl ((jn l).take k) = l.take n ∧ (jn (l.take n)).length ≤ k ∧ (n = l.length ∨ ∃ r, l[n]? = some r ∧ k - (jn (l.take n)).length ≤ r.length)
  | [], _, k, hk => ⟨0, Nat.le_refl _, by simp [jn, spl_nil], by simp [jn], .inl rfl⟩
  | r :: l, h, k, hk => by
    have hr := h r (by simp)
    have hl : ∀ x ∈ l, okr x := fun x hx => h x (by simp [hx])
    by_cases hlt : k < (jn1 r).length
    · refine ⟨0, Nat.zero_le _, ?_, by simp [jn], .inr ⟨r, rfl, ?_⟩⟩
      · rw [jn_cons, List.take_append_of_le_length (by omega), spl_part hr hlt]; rfl
      · rw [jn1_len] at hlt; simp [jn]; omega
    · rw [jn_cons, List.length_append] at hk
      obtain ⟨n, h1, h2, h3, h4⟩ := spl_take hl (k - (jn1 r).length) (by omega)
      refine ⟨n + 1, by simp; omega, ?_, ?_, ?_⟩
      · rw [jn_cons, List.take_append, List.take_of_length_le (by omega), spl_jn1 hr, h2]; rfl
      · rw [List.take_succ_cons, jn_cons, List.length_append]; omega
      · rcases h4 with rfl | ⟨x, h5, h6⟩
        · exact .inl rfl
        · refine .inr ⟨x, by simpa using h5, ?_⟩
          rw [List.take_succ_cons, jn_cons, List.length_append]; omega
/-! ### what two rows have alike -/
def al : List (List UInt8) → List (List UInt8) → Nat
  | a :: as, b :: bs => if a = b then al as bs + 1 else 0
  | _, _ => 0
theorem al_le : ∀ (a b : List (List UInt8)), al a b ≤ a.length ∧ al a b ≤ b.length
  | [], _ => ⟨Nat.le_refl _, Nat.zero_le _⟩
  | _ :: _, [] => ⟨Nat.zero_le _, Nat.le_refl _⟩
  | a :: as, b :: bs => by
    have := al_le as bs
    simp only [al]
    split <;> simp <;> omega
theorem al_step : ∀ {a b : List (List UInt8)} {n : Nat}, n ≤ al a b → (h1 : n < a.length) → (h2 : n < b.length) → a[n] = b[n] → n + 1 ≤ al a b
  | a :: as, b :: bs, 0, _, _, _, h => by
    have h : a = b := h
    subst h
    simp [al]
  | a :: as, b :: bs, n + 1, hn, h1, h2, h => by
    simp only [al] at hn ⊢
    split at hn
    · rename_i e
      rw [if_pos e]
      have := al_step (a := as) (b := bs) (n := n) (by omega) (by simpa using h1) (by simpa using h2) (by simpa using h)
      omega
    · omega
theorem al_stop : ∀ {a b : List (List UInt8)} {n : Nat}, n ≤ al a b → (∀ (h1 : n < a.length) (h2 : n < b.length), a[n] ≠ b[n]) → al a b = n
  | [], _, n, hn, _ => by simp only [al] at *; omega
  | _ :: _, [], n, hn, _ => by simp only [al] at *; omega
  | a :: as, b :: bs, 0, _, h => by
    have h : a ≠ b := h (by simp) (by simp)
    simp [al, h]
  | a :: as, b :: bs, n + 1, hn, h => by
    simp only [al] at hn ⊢
    split at hn
    · rename_i e
      rw [if_pos e, al_stop (a := as) (b := bs) (n := n) (by omega) (fun h1 h2 => h (Nat.succ_lt_succ h1) (Nat.succ_lt_succ h2))]
    · omega
theorem al_take : ∀ (a b : List (List UInt8)), a.take (al a b) = b.take (al a b)
  | [], b => by simp [al]
  | _ :: _, [] => by simp [al]
  | a :: as, b :: bs => by
    simp only [al]
    split
    · rename_i e
      subst e
      rw [List.take_succ_cons, List.take_succ_cons, al_take as bs]
    · rfl
theorem al_pre : ∀ (a b c : List (List UInt8)), al (a ++ b) (a ++ c) = a.length + al b c
  | [], b, c => by simp
  | x :: a, b, c => by
    show al (x :: (a ++ b)) (x :: (a ++ c)) = _
    simp only [al, if_true, List.length_cons]
    rw [al_pre a b c]; omega
theorem al_nil (a : List (List UInt8)) : al a [] = 0 := by cases a <;> rfl
theorem al_nil' (a : List (List UInt8)) : al [] a = 0 := rfl
theorem al_self (a : List (List UInt8)) : al a a = a.length := by
  have := al_pre a [] []
  simpa [al] using this
theorem al_comm : ∀ (a b : List (List UInt8)), al a b = al b a
  | [], [] => rfl
  | [], _ :: _ => rfl
  | _ :: _, [] => rfl
  | a :: as, b :: bs => by
    simp only [al]
    by_cases e : a = b
    · rw [if_pos e, if_pos e.symm, al_comm as bs]
    · rw [if_neg e, if_neg (fun h => e h.symm)]
/-! ### the records that count -/
def cntIn (a : List (List UInt8)) (l : List (List (List UInt8))) (best : List (List UInt8)) : List (List UInt8) :=
  l.foldl (fun best b => if best.length < al a b then a.take (al a b) else best) best
def cntGo : List (List (List UInt8)) → List (List (List UInt8)) → List (List UInt8) → List (List UInt8)
  | _, [], best => best
  | seen, a :: rest, best => cntGo (seen ++ [a]) rest (cntIn a seen best)
def cnt (l : List (List (List UInt8))) : List (List UInt8) := cntGo [] l []
theorem cntIn_cons (a : List (List UInt8)) (b : List (List UInt8)) (l : List (List (List UInt8))) (best : List (List UInt8)) :
    cntIn a (b :: l) best = cntIn a l (if best.length < al a b then a.take (al a b) else best) := rfl
theorem cnt2 (a b : List (List UInt8)) : cnt [a, b] = b.take (al b a) := by
  simp only [cnt, cntGo, cntIn, List.foldl, List.nil_append]
  by_cases h : 0 < al b a
  · rw [if_pos (by simpa using h)]
  · rw [if_neg (by simpa using h), show al b a = 0 by omega]; rfl
end Go.Proofs.Ytkkkncchinejmaa.TrM
