/- Codes, plain: all shards there, one of them missing or turned. No condition. -/
import Derived.Test.YtjnfhppjkadlpaaCdX
set_option linter.unusedSimpArgs false
set_option linter.unusedVariables false
namespace Go.Proofs.Ytjnfhppjkadlpaa.Cd
open Go Go.RowKit Go.Proofs.Ytjnfhppjkadlpaa Go.Proofs.Ytjnfhppjkadlpaa.Sp Go.Proofs.Ytjnfhppjkadlpaa.Gf Go.Proofs.Ytjnfhppjkadlpaa.Mt
theorem cnt_eq (i : Nat) : ∀ n, cnt (fun s => decide (s = i)) n = if i < n then 1 else 0
  | 0 => rfl
  | n + 1 => by
    rw [cnt_succ, cnt_eq i n]
    by_cases h : n = i
    · subst h; simp
    · simp only [decide_eq_true_eq]
      rw [if_neg h]
      by_cases h2 : i < n
      · rw [if_pos h2, if_pos (by omega)]
      · rw [if_neg h2, if_neg (by omega)]
theorem sat_set {l : Shs} {i s : Nat} (hi : i < l.length) : sat (l.set i none) s = if s = i then none else sat l s := by
  unfold sat
  by_cases h : s = i
  · subst h; rw [if_pos rfl, List.getElem?_set_self hi]; rfl
  · rw [if_neg h, List.getElem?_set_ne (Ne.symm h)]
/-- With one of them missing there are enough. -/
theorem thr_one {L : List (List UInt8)} {i : Nat} (hi : i < L.length) : (thr ((L.map some).set i none) ((L.map some).set i none).length).length + 1 = L.length := by
  rw [List.length_set, List.length_map]
  have h : thr ((L.map some).set i none) L.length = (List.range L.length).filter fun s => !decide (s = i) := by
    refine List.filter_congr fun s hs => ?_
    rw [sat_set (by simpa using hi)]
    by_cases e : s = i
    · subst e; simp
    · rw [if_neg e, sat_all, List.getElem?_eq_getElem (List.mem_range.1 hs)]; simp [e]
  have h2 := filter_two (fun s => decide (s = i)) (List.range L.length)
  have h3 := cnt_eq i L.length
  unfold cnt at h3
  rw [if_pos hi] at h3
  rw [List.length_range] at h2
  rw [h]
  omega
/-- All of them but one are the code's. -/
theorem of_one {xs ys : List UInt8} {n : Nat} {d L : List (List UInt8)} {i : Nat} (hd : d.length = xs.length) (hn : ∀ b ∈ d, b.length = n) (hL : L.length = xs.length + ys.length) (hi : i < L.length) (h : ∀ s, s ≠ i → L.getD s [] = (all xs ys n d).getD s []) : Of xs ys n d ((L.map some).set i none) where
  dl := hd
  dn := hn
  ll := by rw [List.length_set, List.length_map, hL]
  ok := fun s b e => by
    rw [sat_set (by simpa using hi)] at e
    by_cases h2 : s = i
    · rw [if_pos h2] at e; cases e
    · rw [if_neg h2, sat_all] at e
      rw [← h s h2]
      simp [List.getD, e]
/-- What is all there is told as it is. -/
theorem dec_full {xs ys : List UInt8} {n : Nat} {L : List (List UInt8)} {Bk : Mx} (hL : L.length = xs.length + ys.length) : dec xs ys Bk (L.map some) n = L := by
  have h1 : dt xs.length Bk (L.map some) (fr0 xs.length (L.map some)) n = L.take xs.length := by
    refine List.ext_getElem (by rw [dt_len, List.length_take]; omega) fun i h2 h3 => ?_
    have hi : i < xs.length := by rw [dt_len] at h2; exact h2
    simp only [dt, List.getElem_map, List.getElem_range, dt1, sat_all, List.getElem?_eq_getElem (show i < L.length by omega), List.getElem_take]
  unfold dec
  rw [h1]
  have h2 : px xs ys (L.map some) n (L.take xs.length) ys.length = L.drop xs.length := by
    refine List.ext_getElem (by rw [px_len, List.length_drop]; omega) fun j h2 h3 => ?_
    have hj : j < ys.length := by rw [px_len] at h2; exact h2
    simp only [px, List.getElem_map, List.getElem_range, px1, sat_all, List.getElem?_eq_getElem (show xs.length + j < L.length by omega), List.getElem_drop]
  rw [h2, List.take_append_drop]
theorem okx_all {xs ys : List UInt8} {n : Nat} {d : List (List UInt8)} (hd : d.length = xs.length) : okx xs ys n (all xs ys n d) ys.length = true := by
  refine decide_eq_true fun i hi => ?_
  have h : (all xs ys n d).take xs.length = d := by unfold all; rw [← hd, List.take_left]
  rw [h, all_hi hd (by omega) (by omega), Nat.add_sub_cancel_left]
/-- One byte of one of them turned: it does not agree. -/
theorem okx_odd {xs ys : List UInt8} (hg : Cd.Good xs ys) {n : Nat} {d : List (List UInt8)} (hd : d.length = xs.length) (hn : ∀ b ∈ d, b.length = n) {i q : Nat} (hi : i < xs.length + ys.length) (hq : q < n) {by_ : UInt8} (hb : by_ ≠ 0) {r : List UInt8} (hr : r = ((all xs ys n d).getD i []).set q (((all xs ys n d).getD i []).getD q 0 ^^^ by_)) :
    okx xs ys n ((all xs ys n d).set i r) ys.length = false := by
  have hal := all_len (ys := ys) (n := n) hd
  have hy := hg.r1
  have hlen : ((all xs ys n d).getD i []).length = n := by
    simp only [List.getD, List.getElem?_eq_getElem (show i < (all xs ys n d).length by omega), Option.getD_some]
    exact all_each hd hn _ (List.getElem_mem _)
  have hrq : r.getD q 0 = ((all xs ys n d).getD i []).getD q 0 ^^^ by_ := by
    rw [hr]
    simp [List.getD, List.getElem?_set_self (show q < ((all xs ys n d)[i]?.getD []).length by have := hlen; simp only [List.getD] at this; omega)]
  refine decide_eq_false fun h => ?_
  by_cases hk : i < xs.length
  · have h0 := h 0 hy
    have e1 : ((all xs ys n d).set i r).getD (xs.length + 0) [] = par xs ys 0 n d := by
      rw [show ((all xs ys n d).set i r).getD (xs.length + 0) [] = (all xs ys n d).getD (xs.length + 0) [] from by simp only [List.getD, List.getElem?_set_ne (show i ≠ xs.length + 0 by omega)]]
      rw [all_hi hd (by omega) (by omega), Nat.add_sub_cancel_left]
    have e2 : ((all xs ys n d).set i r).take xs.length = d.set i r := by
      rw [List.take_set]
      congr 1
      unfold all
      rw [← hd, List.take_left]
    rw [e1, e2] at h0
    have hdi : (all xs ys n d).getD i [] = d.getD i [] := all_lo hd hk
    rw [hdi] at hrq
    refine par_turn hg (x := d) (z := d.set i r) hk hq hb (fun i' => ?_) hy h0.symm
    by_cases e : i' = i
    · subst e
      rw [if_pos rfl, ← hrq]
      simp [List.getD, List.getElem?_set_self (show i' < d.length by omega)]
    · rw [if_neg e]
      simp only [List.getD, List.getElem?_set_ne (Ne.symm e)]
  · have h0 := h (i - xs.length) (by omega)
    rw [show xs.length + (i - xs.length) = i by omega] at h0
    have e1 : ((all xs ys n d).set i r).getD i [] = r := by simp [List.getD, List.getElem?_set_self (show i < (all xs ys n d).length by omega)]
    have e2 : ((all xs ys n d).set i r).take xs.length = d := by
      rw [List.take_set, List.set_eq_of_length_le (by rw [List.length_take]; omega)]
      unfold all
      rw [← hd, List.take_left]
    rw [e1, e2, ← all_hi hd (by omega) hi] at h0
    rw [h0] at hrq
    have h3 := congrArg (fun v => ((all xs ys n d).getD i []).getD q 0 ^^^ v) hrq
    simp only [← UInt8.xor_assoc, UInt8.xor_self, UInt8.zero_xor] at h3
    exact hb h3.symm
end Go.Proofs.Ytjnfhppjkadlpaa.Cd
