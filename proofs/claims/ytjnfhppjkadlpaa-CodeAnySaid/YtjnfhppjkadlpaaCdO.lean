/- Codes, plain: any of the shards missing, by the bits of a number. No condition. -/
import Derived.Test.YtjnfhppjkadlpaaShe
import Derived.Test.YtjnfhppjkadlpaaCdK
set_option linter.unusedSimpArgs false
set_option linter.unusedVariables false
namespace Go.Proofs.Ytjnfhppjkadlpaa.Cd
open Go Go.RowKit Go.Proofs.Ytjnfhppjkadlpaa Go.Proofs.Ytjnfhppjkadlpaa.Sp Go.Proofs.Ytjnfhppjkadlpaa.Gf Go.Proofs.Ytjnfhppjkadlpaa.Mt Go.Proofs.Ytjnfhppjkadlpaa.Shd Go.Proofs.Ytjnfhppjkadlpaa.Obr
/-- The bits of a number. -/
def Fb (o : Int) : Nat → Bool := fun i => decide (bits .and .u64 (o / 2 ^ i) 1 = 1)
theorem Fb_bit {o : Nat} (h : o < 2 ^ 64) (i : Nat) : Fb (o : Int) i = o.testBit i := by
  have e1 : (o : Int) / 2 ^ i = ((o / 2 ^ i : Nat) : Int) := by push_cast; rfl
  have hd : o / 2 ^ i < 2 ^ 64 := Nat.lt_of_le_of_lt (Nat.div_le_self _ _) h
  have e2 : (((o / 2 ^ i : Nat) : Int) % ((2 ^ 64 : Nat) : Int)).toNat = o / 2 ^ i := by generalize o / 2 ^ i = y at hd ⊢; omega
  have key : (BitVec.ofInt 64 ((o / 2 ^ i : Nat) : Int) &&& BitVec.ofInt 64 1).toNat = o / 2 ^ i % 2 := by
    rw [BitVec.toNat_and, BitVec.toNat_ofInt, e2]
    exact Nat.and_one_is_mod _
  have e3 : bits .and .u64 ((o : Int) / 2 ^ i) 1 = ((o / 2 ^ i % 2 : Nat) : Int) := by
    rw [e1]
    show IntKind.u64.wrap ((BitVec.ofInt 64 ((o / 2 ^ i : Nat) : Int) &&& BitVec.ofInt 64 1).toNat : Nat) = _
    rw [key, IntKind.wrap_u64]
    generalize o / 2 ^ i = y
    omega
  unfold Fb
  rw [e3, Nat.testBit_eq_decide_div_mod_eq]
  congr 1
  simp only [eq_iff_iff]
  omega
theorem or_bit {o : Nat} (h : o < 2 ^ 64) {q : Nat} (hq : q < 64) : bits .or .u64 (o : Int) ((2 ^ q : Nat) : Int) = ((o ||| 2 ^ q : Nat) : Int) ∧ o ||| 2 ^ q < 2 ^ 64 := by
  have h2 : 2 ^ q < 2 ^ 64 := Nat.pow_lt_pow_right (by omega) hq
  have h3 : o ||| 2 ^ q < 2 ^ 64 := Nat.or_lt_two_pow h h2
  have e2 : ((o : Int) % ((2 ^ 64 : Nat) : Int)).toNat = o := by omega
  have e4 : (((2 ^ q : Nat) : Int) % ((2 ^ 64 : Nat) : Int)).toNat = 2 ^ q := by
    generalize 2 ^ q = y at h2 ⊢
    omega
  refine ⟨?_, h3⟩
  have key : (BitVec.ofInt 64 (o : Int) ||| BitVec.ofInt 64 ((2 ^ q : Nat) : Int)).toNat = o ||| 2 ^ q := by
    rw [BitVec.toNat_or, BitVec.toNat_ofInt, BitVec.toNat_ofInt, e2, e4]
  show IntKind.u64.wrap ((BitVec.ofInt 64 (o : Int) ||| BitVec.ofInt 64 ((2 ^ q : Nat) : Int)).toNat : Nat) = _
  rw [key, IntKind.wrap_u64]
  omega
theorem Fb_or {o : Nat} (h : o < 2 ^ 64) {q : Nat} (hq : q < 64) (i : Nat) : Fb ((o ||| 2 ^ q : Nat) : Int) i = (Fb (o : Int) i || decide (i = q)) := by
  rw [Fb_bit (or_bit h hq).2, Fb_bit h, Nat.testBit_or, Nat.testBit_two_pow]
  congr 1
  simp [eq_comm]
theorem Fb_zero (i : Nat) : Fb 0 i = false := by
  have := Fb_bit (o := 0) (by decide) i
  simpa using this
theorem cnt_congr {F G : Nat → Bool} {n : Nat} (h : ∀ i, i < n → F i = G i) : cnt F n = cnt G n := by
  unfold cnt
  rw [List.filter_congr fun i hi => h i (List.mem_range.1 hi)]
theorem cnt_false (n : Nat) : cnt (fun _ => false) n = 0 := by simp [cnt]
/-- One more bit. -/
theorem cnt_or {F : Nat → Bool} {q : Nat} (hq : F q = false) : ∀ n, cnt (fun i => F i || decide (i = q)) n = cnt F n + if q < n then 1 else 0
  | 0 => rfl
  | n + 1 => by
    rw [cnt_succ, cnt_succ, cnt_or hq n]
    by_cases e : n = q
    · subst e; simp [hq]
    · have : (if q < n then 1 else 0) = if q < n + 1 then 1 else 0 := by
        by_cases h : q < n
        · rw [if_pos h, if_pos (by omega)]
        · rw [if_neg h, if_neg (by omega)]
      rw [this]
      simp only [decide_eq_false e, Bool.or_false]
      omega
section
variable {F : Nat → Bool} {L : List (List UInt8)}
theorem tk_sat {s : Nat} (h : s < L.length) : sat (tk F L) s = if F s then none else some (L.getD s []) := by
  rw [sat_at (by rw [tk_len]; exact h)]
  simp [tk]
theorem tk_each {n : Nat} (hn : ∀ b ∈ L, b.length = n) : ∀ b, some b ∈ tk F L → b.length = n := by
  intro b hb
  obtain ⟨i, hi, e⟩ := List.mem_map.1 hb
  have hi' := List.mem_range.1 hi
  split at e
  · cases e
  · cases e
    simp only [List.getD, List.getElem?_eq_getElem hi', Option.getD_some]
    exact hn _ (List.getElem_mem hi')
theorem thr_tk : (thr (tk F L) (tk F L).length).length + cnt F L.length = L.length := by
  rw [tk_len]
  have h : thr (tk F L) L.length = (List.range L.length).filter fun i => !F i := by
    refine List.filter_congr fun i hi => ?_
    rw [tk_sat (List.mem_range.1 hi)]
    cases F i <;> rfl
  rw [h]
  have := filter_two F (List.range L.length)
  unfold cnt
  rw [List.length_range] at this
  omega
theorem tk_none {q : Nat} (h : F q = true) : (tk F L).set q none = tk F L := by
  refine List.ext_getElem (by simp) fun i h1 h2 => ?_
  rw [List.getElem_set]
  split
  · rename_i e
    subst e
    simp [tk, h]
  · rfl
theorem lgb_tk {n : Nat} (hn : ∀ b ∈ L, b.length = n) (h64 : n ≤ 64) : lgb (tk F L) = true := lgb_all h64 (tk_each hn)
theorem lgn_tk {n : Nat} (hn : ∀ b ∈ L, b.length = n) (h : cnt F L.length < L.length) : lgn (tk F L) = (n : Int) := by
  obtain ⟨j, hj, hf⟩ : ∃ j, j < L.length ∧ F j = false := by
    refine Classical.byContradiction fun hc => ?_
    have : cnt F L.length = cnt (fun _ => true) L.length := cnt_congr fun i hi => by
      cases e : F i with
      | true => rfl
      | false => exact absurd ⟨i, hi, e⟩ hc
    rw [cnt_true] at this
    omega
  refine lgn_all (tk_each hn) (b := L.getD j []) (List.mem_map.2 ⟨j, List.mem_range.2 hj, ?_⟩)
  rw [hf]
  rfl
theorem of_tk {xs ys : List UInt8} {n : Nat} {d : List (List UInt8)} (hd : d.length = xs.length) (hn : ∀ b ∈ d, b.length = n) : Of xs ys n d (tk F (all xs ys n d)) where
  dl := hd
  dn := hn
  ll := by rw [tk_len, all_len hd]
  ok := fun s b e => by
    have hs := (sat_mem e).2
    rw [tk_len] at hs
    rw [tk_sat hs] at e
    split at e
    · cases e
    · cases e; rfl
end
/-- The next number. -/
theorem or_next {o : Nat} (h : o < 2 ^ 64) {q N : Nat} (hq : q < N) (hN : N ≤ 60) (hf : Fb (o : Int) q = false) : ∃ o2 : Nat, bits .or .u64 (o : Int) (IntKind.u64.wrap (2 ^ q)) = (o2 : Int) ∧ o2 < 2 ^ 64 ∧ cnt (Fb (o2 : Int)) N = cnt (Fb (o : Int)) N + 1 ∧ Fb (o2 : Int) q = true := by
  have h2 : 2 ^ q < 2 ^ 64 := Nat.pow_lt_pow_right (by omega) (by omega)
  obtain ⟨h3, h4⟩ := or_bit h (q := q) (by omega)
  have e : IntKind.u64.wrap (2 ^ q) = ((2 ^ q : Nat) : Int) := by
    have e1 : ((2 : Int) ^ q) = ((2 ^ q : Nat) : Int) := by push_cast; rfl
    rw [e1, IntKind.wrap_u64]
    generalize 2 ^ q = y at h2 ⊢
    omega
  refine ⟨o ||| 2 ^ q, by rw [e]; exact h3, h4, ?_, ?_⟩
  · rw [cnt_congr fun i hi => Fb_or h (show q < 64 by omega) i, cnt_or hf, if_pos hq]
  · rw [Fb_or h (by omega), hf]
    simp
/-- What Decode and Rebuild need. -/
theorem tk_pack {xs ys : List UInt8} {n N : Nat} {d : List (List UInt8)} {F : Nat → Bool} (hd : d.length = xs.length) (hn : ∀ b ∈ d, b.length = n) (hx : 1 ≤ xs.length) (hN : xs.length + ys.length = N) (h64 : n ≤ 64) (hc : cnt F N ≤ ys.length) :
    lgb (tk F (all xs ys n d)) = true ∧ lgn (tk F (all xs ys n d)) = (n : Int) ∧ xs.length ≤ (thr (tk F (all xs ys n d)) (tk F (all xs ys n d)).length).length ∧ (tk F (all xs ys n d)).length = xs.length + ys.length := by
  have hal := all_len (ys := ys) (n := n) hd
  have hc' : cnt F (all xs ys n d).length ≤ ys.length := by rw [hal, hN]; exact hc
  refine ⟨lgb_tk (all_each hd hn) h64, lgn_tk (all_each hd hn) (by omega), ?_, by rw [tk_len, hal]⟩
  have := thr_tk (F := F) (L := all xs ys n d)
  omega
/-- Shards, as the laws use it: the rows alone. -/
theorem shards_x {B : Nat} {w0 : World} {R : HP} (v : Value) (l : List (List UInt8)) (hl : l.length ≤ 60) (hln : ∀ b ∈ l, b.length ≤ 1000) (out : Int) (w : World) (hr : BRd B w0 R v l) (s : St B w0 w R) :
    Calls Try.prog 36 #[v, .int .u64 out] w fun e w' => ∃ a c Bv hs, e = .returned (.tuple #[.slice a l.length c, Bv]) ∧ hs.length = l.length ∧ SRd B w0 (sh (.slice a l.length c) hs (Fb out) l) (.slice a l.length c) (tk (Fb out) l) ∧ St B w0 w' (sh (.slice a l.length c) hs (Fb out) l * R) := by
  refine (shards_calls v l hl hln out w hr s).mono ?_
  rintro e w' ⟨A, Bv, hs, rfl, h1, h2, s1⟩
  obtain ⟨a, c, rfl, -⟩ := (sh_row s1).rowSlice
  exact ⟨a, c, Bv, hs, rfl, h1, sh_srd h1 h2 s1, (s1.eq (sep_left_comm _ _ _)).right⟩
end Go.Proofs.Ytjnfhppjkadlpaa.Cd
