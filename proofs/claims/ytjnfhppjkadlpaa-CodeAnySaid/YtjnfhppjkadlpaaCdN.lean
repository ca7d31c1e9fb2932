/- Codes, plain: how long shards are, which are there, what is decoded. Program-free but for the texts it stands on. -/
import Derived.Test.YtjnfhppjkadlpaaCdE
set_option linter.unusedSimpArgs false
set_option linter.unusedVariables false
namespace Go.Proofs.Ytjnfhppjkadlpaa.Cd
open Go Go.RowKit Go.Proofs.Ytjnfhppjkadlpaa Go.Proofs.Ytjnfhppjkadlpaa.Sp Go.Proofs.Ytjnfhppjkadlpaa.Gf Go.Proofs.Ytjnfhppjkadlpaa.Mt
theorem sat_mem {l : Shs} {s : Nat} {b : List UInt8} (h : sat l s = some b) : some b ∈ l ∧ s < l.length := by
  unfold sat at h
  by_cases hs : s < l.length
  · rw [List.getElem?_eq_getElem hs] at h
    exact ⟨by rw [show some b = l[s] from by simpa using h.symm]; exact List.getElem_mem _, hs⟩
  · rw [List.getElem?_eq_none (by omega)] at h
    cases h
theorem lgo_pos : ∀ (l : Shs) (n m : Int), 0 ≤ n → lgo n l = some m → m = n ∧ ∀ b, some b ∈ l → (b.length : Int) = n
  | [], n, m, _, h => ⟨by simpa [lgo] using h.symm, fun b hb => by cases hb⟩
  | none :: t, n, m, h0, h => by
    obtain ⟨h1, h2⟩ := lgo_pos t n m h0 h
    exact ⟨h1, fun b hb => h2 b (by simpa using hb)⟩
  | some c :: t, n, m, h0, h => by
    unfold lgo at h
    rw [if_neg (by omega)] at h
    by_cases e : (c.length : Int) = n
    · rw [if_neg (by omega)] at h
      obtain ⟨h1, h2⟩ := lgo_pos t n m h0 h
      refine ⟨h1, fun b hb => ?_⟩
      rcases List.mem_cons.1 hb with hb | hb
      · cases hb; exact e
      · exact h2 b hb
    · rw [if_pos e] at h
      cases h
theorem lgo_neg : ∀ (l : Shs) (n m : Int), n < 0 → lgo n l = some m → (m = n ∧ ∀ b, ¬ some b ∈ l) ∨ (0 ≤ m ∧ ∀ b, some b ∈ l → (b.length : Int) = m)
  | [], n, m, _, h => .inl ⟨by simpa [lgo] using h.symm, fun b hb => by cases hb⟩
  | none :: t, n, m, h0, h => by
    rcases lgo_neg t n m h0 h with ⟨h1, h2⟩ | ⟨h1, h2⟩
    · exact .inl ⟨h1, fun b hb => h2 b (by simpa using hb)⟩
    · exact .inr ⟨h1, fun b hb => h2 b (by simpa using hb)⟩
  | some c :: t, n, m, h0, h => by
    unfold lgo at h
    rw [if_pos h0] at h
    obtain ⟨h1, h2⟩ := lgo_pos t c.length m (by omega) h
    subst h1
    refine .inr ⟨by omega, fun b hb => ?_⟩
    rcases List.mem_cons.1 hb with hb | hb
    · cases hb; rfl
    · exact h2 b hb
/-- What long tells where it is so. -/
theorem lgb_spec {l : Shs} (h : lgb l = true) : ∃ n : Nat, lgn l = (n : Int) ∧ n ≤ 64 ∧ ∀ s b, sat l s = some b → b.length = n := by
  unfold lgb at h
  unfold lgn
  cases hl : lgo (-1) l with
  | none => rw [hl] at h; cases h
  | some m =>
    rw [hl] at h
    have hm : m ≤ 64 := of_decide_eq_true h
    rcases lgo_neg l (-1) m (by omega) hl with ⟨h1, h2⟩ | ⟨h1, h2⟩
    · exact ⟨0, by show max m 0 = _; omega, by omega, fun s b e => absurd (sat_mem e).1 (h2 b)⟩
    · exact ⟨m.toNat, by show max m 0 = _; omega, by omega, fun s b e => by have := h2 b (sat_mem e).1; omega⟩
theorem lgo_all (N : Nat) : ∀ (l : Shs), (∀ b, some b ∈ l → b.length = N) → lgo N l = some (N : Int)
  | [], _ => rfl
  | none :: t, h => lgo_all N t fun b hb => h b (List.mem_cons_of_mem _ hb)
  | some c :: t, h => by
    unfold lgo
    rw [if_neg (by omega), if_neg (by have := h c List.mem_cons_self; omega)]
    exact lgo_all N t fun b hb => h b (List.mem_cons_of_mem _ hb)
theorem lgo_some (N : Nat) : ∀ (l : Shs), (∀ b, some b ∈ l → b.length = N) → lgo (-1) l = some (N : Int) ∨ (lgo (-1) l = some (-1) ∧ ∀ b, ¬ some b ∈ l)
  | [], _ => .inr ⟨rfl, fun _ h => by cases h⟩
  | none :: t, h => by
    rcases lgo_some N t fun b hb => h b (List.mem_cons_of_mem _ hb) with e | ⟨e, h2⟩
    · exact .inl e
    · exact .inr ⟨e, fun b hb => h2 b (by simpa using hb)⟩
  | some c :: t, h => by
    refine .inl ?_
    unfold lgo
    rw [if_pos (by omega), h c List.mem_cons_self]
    exact lgo_all N t fun b hb => h b (List.mem_cons_of_mem _ hb)
/-- Those that are there are all so long. -/
theorem lgb_all {N : Nat} {l : Shs} (hN : N ≤ 64) (h : ∀ b, some b ∈ l → b.length = N) : lgb l = true := by
  unfold lgb
  rcases lgo_some N l h with e | ⟨e, -⟩ <;> rw [e] <;> simp <;> omega
theorem lgn_all {N : Nat} {l : Shs} (h : ∀ b, some b ∈ l → b.length = N) {b : List UInt8} (hb : some b ∈ l) : lgn l = (N : Int) := by
  unfold lgn
  rcases lgo_some N l h with e | ⟨-, e⟩
  · rw [e]; show max (N : Int) 0 = N; omega
  · exact absurd hb (e b)
theorem thr_nodup (l : Shs) (n : Nat) : (thr l n).Nodup := (List.nodup_range).filter _
theorem thr_mem {l : Shs} {n s : Nat} (h : s ∈ thr l n) : s < n ∧ (sat l s).isSome = true := by
  have := List.mem_filter.1 h
  exact ⟨List.mem_range.1 this.1, this.2⟩
theorem thr_le (l : Shs) (n : Nat) : (thr l n).length ≤ n := by
  have := List.length_filter_le (fun s => (sat l s).isSome) (List.range n)
  rw [List.length_range] at this
  exact this
/-- A parity behind all: as it is there, or made anew. -/
def px1 (xs ys : List UInt8) (l : Shs) (n : Nat) (D : List (List UInt8)) (j : Nat) : List UInt8 := match sat l (xs.length + j) with
  | some b => b
  | none => par xs ys j n D
def px (xs ys : List UInt8) (l : Shs) (n : Nat) (D : List (List UInt8)) (j : Nat) : List (List UInt8) := (List.range j).map (px1 xs ys l n D)
theorem px_len (xs ys : List UInt8) (l : Shs) (n : Nat) (D : List (List UInt8)) (j : Nat) : (px xs ys l n D j).length = j := by simp [px]
theorem px_succ (xs ys : List UInt8) (l : Shs) (n : Nat) (D : List (List UInt8)) (j : Nat) : px xs ys l n D (j + 1) = px xs ys l n D j ++ [px1 xs ys l n D j] := by simp [px, List.range_succ]
/-- The first k that are there. -/
def fr0 (k : Nat) (l : Shs) : List Nat := (thr l l.length).take k
/-- All shards. -/
def dec (xs ys : List UInt8) (Bk : Mx) (l : Shs) (n : Nat) : List (List UInt8) :=
  dt xs.length Bk l (fr0 xs.length l) n ++ px xs ys l n (dt xs.length Bk l (fr0 xs.length l) n) ys.length
theorem dt1_len {k : Nat} {Bk : Mx} {l : Shs} {fr : List Nat} {n i : Nat} (h : ∀ s b, sat l s = some b → b.length = n) : (dt1 k Bk l fr n i).length = n := by
  unfold dt1
  cases e : sat l i with
  | none => simp
  | some b => exact h i b e
theorem dt_len (k : Nat) (Bk : Mx) (l : Shs) (fr : List Nat) (n : Nat) : (dt k Bk l fr n).length = k := by simp [dt]
theorem dt_all {k : Nat} {Bk : Mx} {l : Shs} {fr : List Nat} {n : Nat} (h : ∀ s b, sat l s = some b → b.length = n) (i : Nat) (hi : i < (dt k Bk l fr n).length) : (dt k Bk l fr n)[i].length = n := by
  simp only [dt, List.getElem_map, List.getElem_range]
  exact dt1_len h
theorem fr0_len {k : Nat} {l : Shs} (h : k ≤ (thr l l.length).length) : (fr0 k l).length = k := by simp [fr0, h]
theorem fr0_mem {k : Nat} {l : Shs} {s : Nat} (h : s ∈ fr0 k l) : s < l.length ∧ (sat l s).isSome = true := thr_mem (List.mem_of_mem_take h)
theorem fr0_nodup (k : Nat) (l : Shs) : (fr0 k l).Nodup := (thr_nodup l l.length).sublist (List.take_sublist _ _)
end Go.Proofs.Ytjnfhppjkadlpaa.Cd
