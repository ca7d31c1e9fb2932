/- Codes, plain: parities, the rows of shards, what any k shards say of the data. Program-free. -/
import Derived.Test.YtjnfhppjkadlpaaMgM
set_option linter.unusedSimpArgs false
set_option linter.unusedVariables false
namespace Go.Proofs.Ytjnfhppjkadlpaa.Cd
open Go Go.RowKit Go.Proofs.Ytjnfhppjkadlpaa Go.Proofs.Ytjnfhppjkadlpaa.Sp Go.Proofs.Ytjnfhppjkadlpaa.Gf Go.Proofs.Ytjnfhppjkadlpaa.Mt
/-- It may be. -/
structure Good (xs ys : List UInt8) : Prop where
  k1 : 1 ≤ xs.length
  k2 : xs.length ≤ 14
  r1 : 1 ≤ ys.length
  r2 : ys.length ≤ 4
  nd : (xs ++ ys).Nodup
/-- How often a data shard is in a parity. -/
def cf (xs ys : List UInt8) (j i : Nat) : UInt8 := ginv (ys.getD j 0 ^^^ xs.getD i 0)
/-- One byte of a parity. -/
def pr1 (xs ys : List UInt8) (d : List (List UInt8)) (j q : Nat) : UInt8 := sm xs.length fun i => gmul (cf xs ys j i) ((d.getD i []).getD q 0)
/-- A parity. -/
def par (xs ys : List UInt8) (j n : Nat) (d : List (List UInt8)) : List UInt8 := (List.range n).map (pr1 xs ys d j)
/-- All parities. -/
def enc (xs ys : List UInt8) (n : Nat) (d : List (List UInt8)) : List (List UInt8) := (List.range ys.length).map fun j => par xs ys j n d
theorem par_len (xs ys : List UInt8) (j n : Nat) (d : List (List UInt8)) : (par xs ys j n d).length = n := by simp [par]
theorem enc_len (xs ys : List UInt8) (n : Nat) (d : List (List UInt8)) : (enc xs ys n d).length = ys.length := by simp [enc]
theorem enc_at {xs ys : List UInt8} {n j : Nat} {d : List (List UInt8)} (h : j < ys.length) : (enc xs ys n d).getD j [] = par xs ys j n d := by simp [enc, List.getD, List.getElem?_map, List.getElem?_range h]
theorem par_at {xs ys : List UInt8} {n j q : Nat} {d : List (List UInt8)} (h : q < n) : (par xs ys j n d).getD q 0 = pr1 xs ys d j q := by simp [par, List.getD, List.getElem?_map, List.getElem?_range h]
/-- Shards that may be missing. -/
abbrev Shs := List (Option (List UInt8))
def sat (l : Shs) (s : Nat) : Option (List UInt8) := (l[s]?).join
/-- Those that are there, from one on. -/
def thr (l : Shs) (n : Nat) : List Nat := (List.range n).filter fun s => (sat l s).isSome
/-- What of the data a shard is. -/
def rwf (xs ys : List UInt8) (s : Nat) : Nat → UInt8 := fun i => if s < xs.length then (if i = s then 1 else 0) else cf xs ys (s - xs.length) i
def Fm (xs ys : List UInt8) (fr : List Nat) : Mx := fun x i => rwf xs ys (fr.getD x 0) i
/-- A data shard, as those say that are there. -/
def dt1 (k : Nat) (Bk : Mx) (l : Shs) (fr : List Nat) (n i : Nat) : List UInt8 := match sat l i with
  | some b => b
  | none => (List.range n).map fun q => sm k fun x => gmul (Bk i x) (((sat l (fr.getD x 0)).getD []).getD q 0)
def dt (k : Nat) (Bk : Mx) (l : Shs) (fr : List Nat) (n : Nat) : List (List UInt8) := (List.range k).map (dt1 k Bk l fr n)
/-! ### any k say all -/
theorem sm_snoc (n : Nat) (f : Nat → UInt8) : sm (n + 1) f = sm n f ^^^ f n := rfl
theorem sm_filter (p : Nat → Bool) (f : Nat → UInt8) : ∀ k, (∀ i, i < k → p i = false → f i = 0) → sm k f = sm ((List.range k).filter p).length fun t => f (((List.range k).filter p).getD t 0)
  | 0, _ => rfl
  | k + 1, h => by
    have ih := sm_filter p f k fun i hi => h i (by omega)
    rw [sm_snoc, List.range_succ, List.filter_append]
    cases hp : p k with
    | true =>
      have e : [k].filter p = [k] := by simp [hp]
      rw [e, List.length_append, List.length_singleton, sm_snoc, ih]
      congr 1
      · refine sm_congr fun t ht => ?_
        congr 1
        simp only [List.getD]
        rw [List.getElem?_append_left ht]
      · congr 1
        simp [List.getD]
    | false =>
      have e : [k].filter p = [] := by simp [hp]
      rw [e, List.append_nil, ih, h k (by omega) hp, UInt8.xor_zero]
theorem nd_le : ∀ (n : Nat) (l : List Nat), l.Nodup → (∀ a ∈ l, a < n) → l.length ≤ n
  | 0, [], _, _ => Nat.le_refl _
  | 0, a :: l, _, h => absurd (h a List.mem_cons_self) (Nat.not_lt_zero _)
  | n + 1, l, hn, h => by
    have := nd_le n (l.erase n) (hn.erase n) fun a ha => by
      have := (hn.mem_erase_iff).1 ha
      have := h a this.2
      omega
    rw [List.length_erase] at this
    split at this <;> omega
theorem filter_two (p : Nat → Bool) : ∀ l : List Nat, (l.filter p).length + (l.filter fun s => !p s).length = l.length
  | [] => rfl
  | a :: l => by
    have := filter_two p l
    cases h : p a <;> simp [h] <;> omega
theorem nd_inj {l : List UInt8} (h : l.Nodup) {i j : Nat} (hi : i < l.length) (hj : j < l.length) (e : l.getD i 0 = l.getD j 0) : i = j := by
  simp only [List.getD, List.getElem?_eq_getElem hi, List.getElem?_eq_getElem hj, Option.getD_some] at e
  exact (List.getElem_inj h).1 e
/-- Whatever k unlike shards of a code that may be: their rows send nothing but nought to nought. -/
theorem Fm_inj {xs ys : List UInt8} (hg : Good xs ys) {fr : List Nat} (hn : fr.Nodup) (hl : fr.length = xs.length) (hb : ∀ s ∈ fr, s < xs.length + ys.length) : Inj xs.length (Fm xs ys fr) := by
  intro v hv
  obtain ⟨nx, ny, dj⟩ := List.nodup_append.1 hg.nd
  have hrow : ∀ s ∈ fr, sm xs.length (fun i => gmul (rwf xs ys s i) (v i)) = 0 := by
    intro s hs
    obtain ⟨x, hx, rfl⟩ := List.getElem_of_mem hs
    have := hv x (by omega)
    unfold mv Fm at this
    simpa [List.getD, List.getElem?_eq_getElem hx] using this
  have hunit : ∀ s ∈ fr, s < xs.length → v s = 0 := by
    intro s hs hk
    have e := hrow s hs
    rw [sm_single hk _ (fun i _ hne => by unfold rwf; rw [if_pos hk, if_neg hne, zero_gmul])] at e
    unfold rwf at e
    rw [if_pos hk, if_pos rfl, one_gmul] at e
    exact e
  let p : Nat → Bool := fun i => !decide (v i = 0)
  let ms := (List.range xs.length).filter p
  have hmsn : ms.Nodup := (List.nodup_range).filter _
  have hms : ∀ i ∈ ms, i < xs.length ∧ v i ≠ 0 := by
    intro i hi
    have := List.mem_filter.1 hi
    exact ⟨List.mem_range.1 this.1, by simpa [p] using this.2⟩
  let ps := (fr.filter fun s => decide (xs.length ≤ s)).map fun s => ys.getD (s - xs.length) 0
  let ds := fr.filter fun s => decide (s < xs.length)
  have hlen : ms.length ≤ ps.length := by
    have h1 : ds.length + (fr.filter fun s => decide (xs.length ≤ s)).length = fr.length := by
      have := filter_two (fun s => decide (s < xs.length)) fr
      have e : (fun s => !decide (s < xs.length)) = fun s => decide (xs.length ≤ s) := by funext s; by_cases h : s < xs.length <;> simp [h] <;> omega
      rw [e] at this
      omega
    have h2 : (ms ++ ds).length ≤ xs.length := by
      have hnd : (ms ++ ds).Nodup := List.nodup_append.2 ⟨hmsn, hn.filter _, fun a ha b hb e => by
        subst e
        have hb2 := List.mem_filter.1 hb
        exact (hms a ha).2 (hunit a hb2.1 (by simpa using hb2.2))⟩
      refine nd_le _ _ hnd fun a ha => ?_
      rcases List.mem_append.1 ha with h | h
      · exact (hms a h).1
      · simpa using (List.mem_filter.1 h).2
    rw [List.length_append] at h2
    simp only [ps, List.length_map]
    omega
  have hall := cauchy ms.length (fun t => xs.getD (ms.getD t 0) 0) (fun t => v (ms.getD t 0)) ps ?_ hlen ?_ ?_ ?_
  · intro i hi
    by_cases h0 : v i = 0
    · exact h0
    · have him : i ∈ ms := List.mem_filter.2 ⟨List.mem_range.2 hi, by simp [p, h0]⟩
      obtain ⟨t, ht, e⟩ := List.getElem_of_mem him
      have := hall t ht
      simp only [List.getD, List.getElem?_eq_getElem ht, Option.getD_some, e] at this
      exact this
  · refine List.pairwise_map.2 ?_
    refine List.Pairwise.imp_of_mem ?_ (hn.filter _)
    intro a b ha hb' hab e
    have ha2 := List.mem_filter.1 ha
    have hb2 := List.mem_filter.1 hb'
    have la := hb a ha2.1
    have lb := hb b hb2.1
    have ga : xs.length ≤ a := by simpa using ha2.2
    have gb : xs.length ≤ b := by simpa using hb2.2
    have := nd_inj ny (i := a - xs.length) (j := b - xs.length) (by omega) (by omega) e
    omega
  · intro i j hi hj e
    have mi : ms.getD i 0 = ms[i] := by simp [List.getD, List.getElem?_eq_getElem hi]
    have mj : ms.getD j 0 = ms[j] := by simp [List.getD, List.getElem?_eq_getElem hj]
    simp only [mi, mj] at e
    have := nd_inj nx (hms _ (List.getElem_mem hi)).1 (hms _ (List.getElem_mem hj)).1 e
    exact (List.getElem_inj hmsn).1 this
  · intro y hy t ht e
    obtain ⟨s, hs, rfl⟩ := List.mem_map.1 hy
    have hs2 := List.mem_filter.1 hs
    have gs : xs.length ≤ s := by simpa using hs2.2
    have ls := hb s hs2.1
    have mt : ms.getD t 0 = ms[t] := by simp [List.getD, List.getElem?_eq_getElem ht]
    have lt := (hms _ (List.getElem_mem ht)).1
    rw [mt] at e
    simp only [List.getD, List.getElem?_eq_getElem lt, List.getElem?_eq_getElem (show s - xs.length < ys.length by omega), Option.getD_some] at e
    exact dj _ (List.getElem_mem lt) _ (List.getElem_mem (show s - xs.length < ys.length by omega)) e.symm
  · intro y hy
    obtain ⟨s, hs, rfl⟩ := List.mem_map.1 hy
    have hs2 := List.mem_filter.1 hs
    have gs : ¬ s < xs.length := by have : xs.length ≤ s := by simpa using hs2.2
                                    omega
    have e := hrow s hs2.1
    rw [sm_filter p _ _ (fun i _ hp => by
      have h0 : v i = 0 := by simpa [p] using hp
      rw [h0, gmul_zero])] at e
    refine Eq.trans (sm_congr fun t _ => ?_) e
    simp only [rwf, if_neg gs, cf]
    rfl
/-- So they have an inverse. -/
theorem Fm_gj {xs ys : List UInt8} (hg : Good xs ys) {fr : List Nat} (hn : fr.Nodup) (hl : fr.length = xs.length) (hb : ∀ s ∈ fr, s < xs.length + ys.length) :
    ∃ A Bk, gj xs.length (Fm xs ys fr) xs.length = some (A, Bk) := gj_of_inj (Fm_inj hg hn hl hb)
/-- A shard of a code's. -/
def shard (xs ys : List UInt8) (d : List (List UInt8)) (s q : Nat) : UInt8 := if s < xs.length then (d.getD s []).getD q 0 else pr1 xs ys d (s - xs.length) q
theorem shard_row (xs ys : List UInt8) (d : List (List UInt8)) (s q : Nat) : sm xs.length (fun i => gmul (rwf xs ys s i) ((d.getD i []).getD q 0)) = shard xs ys d s q := by
  unfold shard
  by_cases h : s < xs.length
  · rw [if_pos h, sm_single h _ (fun i _ hne => by unfold rwf; rw [if_pos h, if_neg hne, zero_gmul])]
    unfold rwf
    rw [if_pos h, if_pos rfl, one_gmul]
  · rw [if_neg h]
    unfold pr1
    exact sm_congr fun i _ => by unfold rwf; rw [if_neg h]
/-- What is told of shards that are a code's: the data. -/
theorem back_data {xs ys : List UInt8} {fr : List Nat} {A Bk : Mx} (h : gj xs.length (Fm xs ys fr) xs.length = some (A, Bk)) (d : List (List UInt8)) (i q : Nat) (hi : i < xs.length) :
    sm xs.length (fun x => gmul (Bk i x) (shard xs ys d (fr.getD x 0) q)) = (d.getD i []).getD q 0 := by
  obtain ⟨h1, -, -⟩ := gj_some h
  let v : Nat → UInt8 := fun i => (d.getD i []).getD q 0
  have e : mv xs.length (mmul xs.length Bk (Fm xs ys fr)) v i = mv xs.length Bk (mv xs.length (Fm xs ys fr) v) i := mv_mmul _ _ _ _ _ _
  have e1 : mv xs.length (mmul xs.length Bk (Fm xs ys fr)) v i = v i := by
    unfold mv
    rw [sm_congr (g := fun k => gmul (unit i k) (v k)) fun k hk => by rw [h1 i k hi hk]]
    exact unit_mmul (fun k _ => v k) (j := 0) hi
  rw [e1] at e
  rw [show (d.getD i []).getD q 0 = v i from rfl, e]
  refine sm_congr fun x hx => ?_
  congr 1
  exact (shard_row xs ys d _ q).symm
end Go.Proofs.Ytjnfhppjkadlpaa.Cd
