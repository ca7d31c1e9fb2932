/- append to a slice that is full: a new row, and what was there stays. Program-free; no condition. -/
import Derived.Test.YtjnfhppjkadlpaaSp
namespace Go.Proofs.Ytjnfhppjkadlpaa.Sp
open Go Go.RowKit
section
variable {P : Program} {B : Nat} {w0 w : World} {R : HP} {t e : TypeId} {size bytes : Nat} {z : Value} {n : Nat} {xs : List Value}
theorem run_append_full (T : SlT P t e size bytes z) (ty : TypeId) (s : St B w0 w R) (g off : Nat) (hxs : xs.length = n * size) (hsrc : Rd w (some ⟨g, off, none⟩) xs) (ax : Option Addr) (m c : Nat) (hm : 0 < m) (news : List Value) (hr : Rd w ax news)
    (hl : news.length = m * size) (h63 : n + m ≤ maxLen) (hbytes : (n + m) * bytes ≤ 140737488355328) :
    ∃ g' c' w', (Builtin.append_ #[t, t] ty #[.slice (some ⟨g, off, none⟩) n n, .slice ax m c]).run P w = .ok (.slice (some ⟨g', 0, none⟩) (n + m) c') w' ∧ St B w0 w' (row e size (.slice (some ⟨g', 0, none⟩) (n + m) c') (n + m) (xs ++ news) * R) := by
  obtain ⟨ht, ⟨i, hi, hz, hsz, hby⟩, hzs, hpos⟩ := T
  subst hsz
  subst hby
  have hsmall : n + m ≤ 9223372036854775807 := by simp only [maxLen] at h63; omega
  have hlen : (xs ++ news).length = (n + m) * i.size := by rw [List.length_append, hxs, hl, Nat.add_mul]
  have hnn : news ≠ [] := by
    intro h
    have := Nat.mul_pos hm hpos
    rw [h, List.length_nil] at hl
    omega
  obtain ⟨b, o2, rfl, hc⟩ := hr.at hnn
  have hnews : ∀ j u, news[j]? = some u → w.cell? ((⟨b, o2, none⟩ : Addr).add j) = some u := fun j u hj => by rw [Addr.add_lit]; exact hc j u hj
  have holds : ∀ j u, xs[j]? = some u → w.cell? ((⟨g, off, none⟩ : Addr).add j) = some u := by
    intro j u hj
    obtain ⟨b', o', e', h⟩ := hsrc.at (by rintro rfl; simp at hj)
    cases e'
    rw [Addr.add_lit]
    exact h j u hj
  have hrr := run_append_grow (P := P) w t ty e i z ht hi hz ⟨g, off, none⟩ n n xs hxs holds _ m c news hl hnews (by omega) (by omega) (growslice_fits (by omega) hbytes)
  refine ⟨_, _, _, hrr, ?_⟩
  have hge := grownCap_ge w (n + m) n e
  have hcm : grownCap w (n + m) n e ≤ maxLen := grownCap_le_maxLen w (n + m) n e h63
  have q := s.drew.alloc (.cells (xs.toArray ++ news.toArray ++ Builtin.zeroCells z.cells (grownCap w (n + m) n e - (n + m))) e)
  refine q.rowMk hge hcm ?_ ?_
  · refine Nat.le_of_eq ?_
    simp only [Array.size_append, List.size_toArray, size_zeroCells, hzs, hxs, hl, ← Nat.add_mul]
    congr 1
    omega
  · simp only [Array.toList_append, List.append_assoc]
    rw [← List.append_assoc, ← hlen]
    exact List.take_left
variable {ops : Array Oper} {rest : List Oper} {o : Oper} {a : Act} {Q : Exit → Act → World → Prop}
theorem wpl_append_full (hg : o.guard = none) (so xo : Operand) (hop : o.op = .call { callee := .builtin .append, args := #[so, xo], argTypes := #[t, t] })
    (T : SlT P t e size bytes z) (s : St B w0 w R) (g off : Nat) (hxs : xs.length = n * size) (hsrc : Rd w (some ⟨g, off, none⟩) xs) (ax : Option Addr) (m c : Nat) (hm : 0 < m) (news : List Value) (hs : a.eval so = .slice (some ⟨g, off, none⟩) n n) (hx : a.eval xo = .slice ax m c)
    (hr : Rd w ax news) (hl : news.length = m * size) (h63 : n + m ≤ maxLen) (hbytes : (n + m) * bytes ≤ 140737488355328)
    (hK : ∀ g' c' w', St B w0 w' (row e size (.slice (some ⟨g', 0, none⟩) (n + m) c') (n + m) (xs ++ news) * R) → wpList P ops Q rest (a.put o.dst (.slice (some ⟨g', 0, none⟩) (n + m) c')) w') :
    wpList P ops Q (o :: rest) a w := by
  refine wpList_plain hg fun K hK' => ?_
  obtain ⟨g', c', w', hrun, r1⟩ := run_append_full (P := P) T o.type s g off hxs hsrc ax m c hm news hr hl h63 hbytes
  unfold Oper.wp
  simp [execOp, hop, resolve, invoke, builtin, hs, hx, hrun, Result.andThen]
  exact hK' _ _ (hK g' c' w' r1)
end
end Go.Proofs.Ytjnfhppjkadlpaa.Sp
