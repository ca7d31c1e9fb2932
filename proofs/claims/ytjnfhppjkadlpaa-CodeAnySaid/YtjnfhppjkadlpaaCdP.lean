/- Codes, plain: whatever k of a code's shards are there, what is decoded is the code's. Program-free but for the texts it stands on. -/
import Derived.Test.YtjnfhppjkadlpaaCdN
set_option linter.unusedSimpArgs false
set_option linter.unusedVariables false
namespace Go.Proofs.Ytjnfhppjkadlpaa.Cd
open Go Go.RowKit Go.Proofs.Ytjnfhppjkadlpaa Go.Proofs.Ytjnfhppjkadlpaa.Sp Go.Proofs.Ytjnfhppjkadlpaa.Gf Go.Proofs.Ytjnfhppjkadlpaa.Mt
/-- All shards of some data. -/
def all (xs ys : List UInt8) (n : Nat) (d : List (List UInt8)) : List (List UInt8) := d ++ enc xs ys n d
theorem all_len {xs ys : List UInt8} {n : Nat} {d : List (List UInt8)} (h : d.length = xs.length) : (all xs ys n d).length = xs.length + ys.length := by unfold all; rw [List.length_append, enc_len, h]
theorem getD_app_l {α : Type} {a b : List α} {i : Nat} {z : α} (h : i < a.length) : (a ++ b).getD i z = a.getD i z := by
  simp only [List.getD, List.getElem?_append_left h]
theorem getD_app_r {α : Type} {a b : List α} {i : Nat} {z : α} (h : a.length ≤ i) : (a ++ b).getD i z = b.getD (i - a.length) z := by
  simp only [List.getD, List.getElem?_append_right h]
theorem all_lo {xs ys : List UInt8} {n s : Nat} {d : List (List UInt8)} (h : d.length = xs.length) (hs : s < xs.length) : (all xs ys n d).getD s [] = d.getD s [] := getD_app_l (by omega)
theorem all_hi {xs ys : List UInt8} {n s : Nat} {d : List (List UInt8)} (h : d.length = xs.length) (hs : xs.length ≤ s) (h2 : s < xs.length + ys.length) : (all xs ys n d).getD s [] = par xs ys (s - xs.length) n d := by
  unfold all
  rw [getD_app_r (by omega), h, enc_at (by omega)]
theorem all_each {xs ys : List UInt8} {n : Nat} {d : List (List UInt8)} (h : d.length = xs.length) (hn : ∀ b ∈ d, b.length = n) : ∀ b ∈ all xs ys n d, b.length = n := by
  intro b hb
  rcases List.mem_append.1 hb with h | h
  · exact hn b h
  · obtain ⟨j, -, rfl⟩ := List.mem_map.1 h
    exact par_len _ _ _ _ _
theorem shard_at {xs ys : List UInt8} {n s q : Nat} {d : List (List UInt8)} (h : d.length = xs.length) (hs : s < xs.length + ys.length) (hq : q < n) : ((all xs ys n d).getD s []).getD q 0 = shard xs ys d s q := by
  unfold shard
  by_cases hk : s < xs.length
  · rw [if_pos hk, all_lo h hk]
  · rw [if_neg hk, all_hi h (by omega) hs, par_at hq]
theorem map_getD {b : List UInt8} {n : Nat} (h : b.length = n) : ((List.range n).map fun q => b.getD q 0) = b := by
  refine List.ext_getElem (by simp [h]) fun i h1 h2 => ?_
  simp [List.getD, h2]
/-- Shards, some of them missing, that are a code's. -/
structure Of (xs ys : List UInt8) (n : Nat) (d : List (List UInt8)) (l : Shs) : Prop where
  dl : d.length = xs.length
  dn : ∀ b ∈ d, b.length = n
  ll : l.length = xs.length + ys.length
  ok : ∀ s b, sat l s = some b → b = (all xs ys n d).getD s []
theorem Of.len {xs ys : List UInt8} {n : Nat} {d : List (List UInt8)} {l : Shs} (h : Of xs ys n d l) : ∀ s b, sat l s = some b → b.length = n := by
  intro s b e
  have hs := (sat_mem e).2
  rw [h.ok s b e]
  have hs2 : s < (all xs ys n d).length := by rw [all_len h.dl, ← h.ll]; exact hs
  refine all_each (ys := ys) h.dl h.dn _ ?_
  simp only [List.getD, List.getElem?_eq_getElem hs2, Option.getD_some]
  exact List.getElem_mem _
theorem dt_right {xs ys : List UInt8} {n : Nat} {d : List (List UInt8)} {l : Shs} (h : Of xs ys n d l) (ht : xs.length ≤ (thr l l.length).length) {A Bk : Mx} (hg : gj xs.length (Fm xs ys (fr0 xs.length l)) xs.length = some (A, Bk)) :
    dt xs.length Bk l (fr0 xs.length l) n = d := by
  unfold dt
  refine List.ext_getElem (by simp [h.dl]) fun i h1 h2 => ?_
  have hi : i < xs.length := by rw [← h.dl]; exact h2
  have hdi : d.getD i [] = d[i] := by simp [List.getD, h2]
  simp only [List.getElem_map, List.getElem_range]
  unfold dt1
  cases e : sat l i with
  | some b =>
    show b = _
    rw [h.ok i b e, all_lo h.dl hi, hdi]
  | none =>
    show ((List.range n).map fun q => sm xs.length fun x => gmul (Bk i x) (((sat l ((fr0 xs.length l).getD x 0)).getD []).getD q 0)) = _
    refine Eq.trans (List.map_congr_left fun q hq => ?_) (map_getD (h.dn _ (List.getElem_mem h2)))
    have hq' := List.mem_range.1 hq
    rw [← hdi, ← back_data hg d i q hi]
    refine sm_congr fun x hx => ?_
    congr 1
    have hfl := fr0_len ht
    have hm : (fr0 xs.length l).getD x 0 ∈ fr0 xs.length l := by
      simp only [List.getD, List.getElem?_eq_getElem (show x < (fr0 xs.length l).length by omega), Option.getD_some]
      exact List.getElem_mem _
    obtain ⟨m1, m2⟩ := fr0_mem hm
    obtain ⟨b, hb⟩ := Option.isSome_iff_exists.1 m2
    rw [hb]
    show b.getD q 0 = _
    rw [h.ok _ b hb, shard_at h.dl (by rw [← h.ll]; exact m1) hq']
theorem dec_right {xs ys : List UInt8} {n : Nat} {d : List (List UInt8)} {l : Shs} (h : Of xs ys n d l) (ht : xs.length ≤ (thr l l.length).length) {A Bk : Mx} (hg : gj xs.length (Fm xs ys (fr0 xs.length l)) xs.length = some (A, Bk)) :
    dec xs ys Bk l n = all xs ys n d := by
  unfold dec
  rw [dt_right h ht hg]
  unfold all px enc
  congr 1
  refine List.map_congr_left fun j hj => ?_
  have hj' := List.mem_range.1 hj
  unfold px1
  cases e : sat l (xs.length + j) with
  | none => rfl
  | some b =>
    show b = _
    rw [h.ok _ b e, all_hi h.dl (by omega) (by omega), Nat.add_sub_cancel_left]
/-- With all of them there. -/
theorem sat_all {l : List (List UInt8)} {s : Nat} : sat (l.map some) s = l[s]? := by
  unfold sat
  rw [List.getElem?_map]
  cases l[s]? <;> rfl
end Go.Proofs.Ytjnfhppjkadlpaa.Cd
