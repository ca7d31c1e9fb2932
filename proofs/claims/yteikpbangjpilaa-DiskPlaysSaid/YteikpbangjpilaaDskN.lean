/- slices.Backward over pending writes, and the disk's 'now': which bytes a slot has. No condition. -/
import Derived.RangeFuncNested
import Derived.RangeFuncLeaves
import Derived.Shelf.Abstract
import Derived.WalkKit
import Derived.OwnWalkIn
import Derived.TacticsInMore
import Derived.LoopNIn
import Derived.LoopIn
import Derived.RangeFuncBound
import Derived.RangeFuncCalls
import Derived.Test.YteikpbangjpilaaFus
namespace Go.Proofs.Yteikpbangjpilaa.DskN
open Go Go.RowKit Go.Shelf Go.Proofs.Yteikpbangjpilaa Go.Proofs.Yteikpbangjpilaa.Sp Go.Proofs.Yteikpbangjpilaa.Reg Go.Proofs.Yteikpbangjpilaa.SlW Go.Proofs.Yteikpbangjpilaa.Fus
attribute [local go_sem] Oper.semAt_some

theorem cell_new_l (W : World) (v : Value) (t : TypeId) : (W.alloc (.cells #[v] t)).cell? ⟨W.heap.size, 0, none⟩ = some v ∧ (W.alloc (.cells #[v] t)).frozen? ⟨W.heap.size, 0, none⟩ = false :=
  ⟨((St.init W).alloc (.cells #[v] t)).cell 0, ((St.init W).alloc (.cells #[v] t)).free 0⟩
theorem cell_alloc_l {W : World} {a : Addr} {v : Value} (o : Obj) (h : W.cell? a = some v) : (W.alloc o).cell? a = some v := cell_kept h (World.grownBy_alloc W o none) (fun r e => by cases e)
theorem frozen_alloc_l {W : World} {a : Addr} {v : Value} (o : Obj) (h : W.cell? a = some v) (hf : W.frozen? a = false) : (W.alloc o).frozen? a = false := (frozen_kept h (World.grownBy_alloc W o none) (fun r e => by cases e)).trans hf
/-- A write that is handed on: its index, its slot, its bytes' slice. -/
structure Wr where
  idx : Nat
  slot : Int
  a : Option Addr
  n : Nat
  c : Nat
def Wr.val (x : Wr) : Value := .slice x.a x.n x.c
/-- What has come when k rounds are over: the last ones first. -/
def come (f : Nat → Wr) (m k : Nat) : List Wr := (List.range k).map fun j => f (m - 1 - j)
theorem come_succ (f : Nat → Wr) (m k : Nat) : come f m (k + 1) = come f m k ++ [f (m - 1 - k)] := by simp [come, List.range_succ]
theorem come_length (f : Nat → Wr) (m k : Nat) : (come f m k).length = k := by simp [come]

theorem come_split {f : Nat → Wr} {m k : Nat} {pre : List Wr} {x : Wr} (h : come f m k = pre ++ [x]) : pre.length + 1 = k ∧ x = f (m - 1 - pre.length) ∧ ∀ j, j < pre.length → f (m - 1 - j) ∈ pre := by
  have hk : pre.length + 1 = k := by have := congrArg List.length h; rw [come_length] at this; simpa using this.symm
  subst hk
  rw [come_succ] at h
  obtain ⟨h1, h2⟩ := List.append_inj' h rfl
  refine ⟨rfl, by simpa using h2.symm, fun j hj => ?_⟩
  have hm : f (m - 1 - j) ∈ come f m pre.length := List.mem_map.2 ⟨j, List.mem_range.2 hj, rfl⟩
  rw [h1] at hm
  exact hm
set_option maxRecDepth 100000 in
set_option maxHeartbeats 2000000 in
theorem back1_in (F : Fence) (n : Nat) (hF : F.fn 64) (hro : F.round = none) (hn : 1 ≤ n) (l Bs n₀ g m cap : Nat) (pa : Option Addr) (hpa : 0 < m → pa = some ⟨g, 0, none⟩) (f : Nat → Wr) (hidx : ∀ q, (f q).idx = q) (hb : 0 < m → g < n₀) (hm : m ≤ 1000000) (J Jx : List Wr → World → Prop)
    (hY : ∀ pre x W, J pre W → pre.length < m → YieldAt F (n - 1) Try.prog l #[.int .i64 (x : Wr).idx, .agg #[.int .i64 x.slot, .slice x.a x.n x.c]] W fun e W' =>
      (e = .returned (.bool true) ∧ J (pre ++ [x]) W' ∧ Below n₀ W W') ∨ (e = .returned (.bool false) ∧ Jx (pre ++ [x]) W'))
    (W : World) (hBs : W.cell? ⟨Bs, 0, none⟩ = some (.slice pa m cap)) (hBn : Bs < n₀)
    (hc : ∀ j, j < m → W.cell? ⟨g, j * 2, none⟩ = some (.int .i64 (f j).slot) ∧ W.cell? ⟨g, j * 2 + 1, none⟩ = some (.slice (f j).a (f j).n (f j).c)) (h0 : J [] W) :
    CallsIn F n Try.prog 64 #[.func (.yield l) #[] #[], .pointer (some ⟨Bs, 0, none⟩)] W fun e W' => (∃ v, e = .returned v) ∧
      ((∃ ys, ys = come f m m ∧ J ys W') ∨ (∃ pre, (∃ k, k ≤ m ∧ pre = come f m k) ∧ Jx pre W')) := by
  refine callsIn_of_wp Try.func64 rfl hF ?_ hro
  simp only [Try.ntmps64, List.size_toArray, List.length_cons, List.length_nil, Nat.reduceAdd, Nat.reduceSub, Array.replicate_succ, Array.replicate_zero, List.push_toArray, List.append_toArray, List.nil_append, List.cons_append]
  gi_wp2
  gi_loopw [3] (fun i wr => ∃ r k : Nat, r + k = m ∧ i = .int .i64 ((r : Int) - 1) ∧ J (come f m k) wr ∧ Below n₀ W wr)
    (fun i _ => (intOf i + 1).toNat)
  case atStart => exact ⟨m, 0, by omega, rfl, h0, Below.refl _ _⟩
  case round =>
    obtain ⟨r, k, hk, rfl, hJs, hnx⟩ := hrel
    cases r with
    | zero =>
      obtain rfl : k = m := by omega
      gi_wp2
      go_end0
      exact ⟨⟨_, rfl⟩, .inl ⟨_, rfl, hJs⟩⟩
    | succ q =>
      have hq : (((q + 1 : Nat) : Int) - 1) = (q : Int) := by omega
      rw [hq]
      have hqm : q < m := by omega
      obtain rfl := hpa (by omega)
      have hb := hb (by omega)
      clear hpa
      have c0 : wr.cell? ⟨g, q * 2, none⟩ = some (.int .i64 (f q).slot) := (hnx.cell (p := ⟨g, q * 2, none⟩) hb).trans (hc q hqm).1
      have c1 : wr.cell? ⟨g, q * 2 + 1, none⟩ = some (.slice (f q).a (f q).n (f q).c) := (hnx.cell (p := ⟨g, q * 2 + 1, none⟩) hb).trans (hc q hqm).2
      have cB : wr.cell? ⟨Bs, 0, none⟩ = some (.slice (some ⟨g, 0, none⟩) m cap) := (hnx.cell (p := ⟨Bs, 0, none⟩) hBn).trans hBs
      obtain ⟨fn, tmps, assign, body, hy, hR⟩ := hY _ (f q) wr hJs (by rw [come_length]; omega)
      rw [hidx] at hy
      have hI := Lib.hid hidx
      clear hidx hc hq
      gi_wp2
      refine hR.mono ?_
      rintro e W3 (⟨rfl, hJ3, hk3⟩ | ⟨rfl, hJx3⟩)
      · gi_wp2
        go_roundw
        case rel => exact ⟨q, k + 1, by omega, rfl, by rw [come_succ, show m - 1 - k = q by omega]; exact hJ3, hnx.trans hk3⟩
        case measure => simp [intOf]
      · gi_wp2
        refine bodyPost_ret (results_none rfl _ _ _) rfl ?_
        exact ⟨⟨_, rfl⟩, .inr ⟨_, ⟨k + 1, by omega, by rw [come_succ, show m - 1 - k = q by omega]⟩, hJx3⟩⟩
set_option maxHeartbeats 1000000 in
/-- slices.Backward(s). -/
theorem back_in (F : Fence) (n : Nat) (hF : F.fn 63) (hro : F.round = none) (a : Option Addr) (len cap : Nat) (w : World) :
    CallsIn F n Try.prog 63 #[.slice a len cap] w fun e w' => e = .returned (.func (.func 64) #[] #[.pointer (some ⟨w.heap.size, 0, none⟩)]) ∧ w' = w.alloc (.cells #[.slice a len cap] 88) := by
  refine callsIn_of_wp Try.func63 rfl hF ?_ hro
  simp only [Try.ntmps63, List.size_toArray, List.length_cons, List.length_nil, Nat.reduceAdd, Nat.reduceSub, Array.replicate_succ, Array.replicate_zero, List.push_toArray, List.append_toArray, List.nil_append, List.cons_append]
  gi_wp2
  go_ret
  exact ⟨rfl, rfl⟩
theorem back_stops (F : Fence) (n : Nat) (hF : F.fn 64) (hro : F.round = none) (hn : 1 ≤ n) (Bs n₀ g m cap : Nat) (pa : Option Addr) (hpa : 0 < m → pa = some ⟨g, 0, none⟩) (f : Nat → Wr) (hidx : ∀ q, (f q).idx = q) (hb : 0 < m → g < n₀) (hm : m ≤ 1000000) (w : World)
    (hBs : Bs < n₀) (hn₀ : n₀ ≤ w.heap.size) (hcB : w.cell? ⟨Bs, 0, none⟩ = some (.slice pa m cap))
    (hc : ∀ j, j < m → w.cell? ⟨g, j * 2, none⟩ = some (.int .i64 (f j).slot) ∧ w.cell? ⟨g, j * 2 + 1, none⟩ = some (.slice (f j).a (f j).n (f j).c)) :
    SeqStopsK F n Try.prog 64 #[.pointer (some ⟨Bs, 0, none⟩)] (fun x : Wr => #[.int .i64 x.idx, .agg #[.int .i64 x.slot, .slice x.a x.n x.c]]) (Below n₀) (fun ys => ys = come f m m) (fun pre => ∃ k, k ≤ m ∧ pre = come f m k) m w := fun l J Jx W hW _ _ hY h0 => by
  refine (back1_in F n hF hro hn l Bs n₀ g m cap pa hpa f hidx hb hm J Jx hY W ((hW.cell (p := ⟨Bs, 0, none⟩) (by simp; omega)).trans hcB) hBs (fun j hj => ?_) h0).mono ?_
  · have := hb (by omega)
    exact ⟨(hW.cell (p := ⟨g, j * 2, none⟩) (by simp; omega)).trans (hc j hj).1, (hW.cell (p := ⟨g, j * 2 + 1, none⟩) (by simp; omega)).trans (hc j hj).2⟩
  · rintro e W' ⟨he, ⟨ys, rfl, hj⟩ | ⟨pre, hk, hj⟩⟩
    · exact ⟨he, .inl ⟨_, rfl, hj⟩⟩
    · exact ⟨he, .inr ⟨_, hk, hj⟩⟩
/-- The value of the last pending write of a slot, or the one that lasts. -/
def nowV (f : Nat → Wr) (slot : Int) (d : Value) : Nat → Value
  | 0 => d
  | q + 1 => if (f q).slot = slot then (f q).val else nowV f slot d q
theorem nowV_hit (f : Nat → Wr) (slot : Int) (d : Value) : ∀ (m k : Nat), k < m → (∀ j, j < k → (f (m - 1 - j)).slot ≠ slot) → (f (m - 1 - k)).slot = slot → nowV f slot d m = (f (m - 1 - k)).val := by
  intro m
  induction m with
  | zero => intro k hk; omega
  | succ m ih =>
    intro k hk hn hh
    unfold nowV
    cases k with
    | zero =>
      simp only [Nat.add_sub_cancel, Nat.sub_zero] at hh ⊢
      rw [if_pos hh]
    | succ k =>
      have h0 := hn 0 (by omega)
      simp only [Nat.add_sub_cancel, Nat.sub_zero] at h0
      rw [if_neg h0]
      have e : m + 1 - 1 - (k + 1) = m - 1 - k := by omega
      rw [e] at hh ⊢
      exact ih k (by omega) (fun j hj => by have := hn (j + 1) (by omega); rwa [show m + 1 - 1 - (j + 1) = m - 1 - j by omega] at this) hh
theorem nowV_none (f : Nat → Wr) (slot : Int) (d : Value) : ∀ (m : Nat), (∀ j, j < m → (f j).slot ≠ slot) → nowV f slot d m = d := by
  intro m
  induction m with
  | zero => intro _; rfl
  | succ m ih =>
    intro h
    unfold nowV
    rw [if_neg (h m (by omega))]
    exact ih fun j hj => h j (by omega)

set_option maxRecDepth 100000 in
set_option maxHeartbeats 4000000 in
theorem now_in (F : Fence) (n : Nat) (hF0 : F.fn 61) (hF1 : F.fn 63) (hF2 : F.fn 64) (hro : F.round = none) (hn : 3 ≤ n) (bk gl g m cap nl cl slot : Nat) (pa : Option Addr) (hpa : 0 < m → pa = some ⟨g, 0, none⟩) (f : Nat → Wr) (hidx : ∀ q, (f q).idx = q) (hm : m ≤ 1000000) (w : World)
    (la : Option Addr) (ll lc : Nat) (hsl : slot < nl) (hnl : nl ≤ 64)
    (hP : w.cell? ⟨bk, 2, none⟩ = some (.slice pa m cap)) (hL : w.cell? ⟨bk, 1, none⟩ = some (.slice (some ⟨gl, 0, none⟩) nl cl)) (hLs : w.cell? ⟨gl, slot, none⟩ = some (.slice la ll lc))
    (hc : ∀ j, j < m → w.cell? ⟨g, j * 2, none⟩ = some (.int .i64 (f j).slot) ∧ w.cell? ⟨g, j * 2 + 1, none⟩ = some (.slice (f j).a (f j).n (f j).c)) :
    CallsIn F n Try.prog 61 #[.pointer (some ⟨bk, 0, none⟩), .int .i64 slot] w fun e W' => e = .returned (nowV f slot (.slice la ll lc) m) ∧ Below w.heap.size w W' := by
  have h1 : 1 ≤ n := by omega
  have hgl : 0 < m → g < w.heap.size := fun h => World.block_lt_of_cell? w ⟨g, 0 * 2, none⟩ (hc 0 h).1
  have hbkl : bk < w.heap.size := World.block_lt_of_cell? w ⟨bk, 2, none⟩ hP
  have hgll : gl < w.heap.size := World.block_lt_of_cell? w ⟨gl, slot, none⟩ hLs
  have HC := Lib.hid hc
  have HI := Lib.hid hidx
  have HPA := Lib.hid hpa
  clear hc hidx hpa
  refine callsIn_of_wp_marks Try.func61 rfl hF0 ?_ hro
  simp only [Try.ntmps61, List.size_toArray, List.length_cons, List.length_nil, Nat.reduceAdd, Nat.reduceSub, Array.replicate_succ, Array.replicate_zero, List.push_toArray, List.append_toArray, List.nil_append, List.cons_append]
  gi_wp2_with (gi_at_call 63; refine (back_in F (n - 1) hF1 hro _ _ _ _).mono ?_; rintro e w' ⟨rfl, rfl⟩)
  have e0 := cell_new_l w (.int .i64 slot) 3
  have e1 := cell_new_l (w.alloc (.cells #[.int .i64 slot] 3)) (.slice none 0 0) 25
  have e2 := cell_new_l ((w.alloc (.cells #[.int .i64 slot] 3)).alloc (.cells #[.slice none 0 0] 25)) (.slice pa m cap) 88
  simp only [World.size_alloc] at e1 e2
  have d0 := cell_alloc_l (.cells #[.slice pa m cap] 88) (cell_alloc_l (.cells #[.slice none 0 0] 25) e0.1)
  have d1 := cell_alloc_l (.cells #[.slice pa m cap] 88) e1.1
  have g1 := frozen_alloc_l (.cells #[.slice pa m cap] 88) e1.1 e1.2
  have hB0 : Below w.heap.size w (((w.alloc (.cells #[.int .i64 slot] 3)).alloc (.cells #[.slice none 0 0] 25)).alloc (.cells #[.slice pa m cap] 88)) := (((Below.refl _ w).alloc (Nat.le_refl _) _).alloc (by simp) _).alloc (by simp; omega) _
  have hsz : (((w.alloc (.cells #[.int .i64 slot] 3)).alloc (.cells #[.slice none 0 0] 25)).alloc (.cells #[.slice pa m cap] 88)).heap.size = w.heap.size + 3 := by simp
  have d2 := e2.1
  obtain ⟨W0, hW0⟩ : ∃ W0, ((w.alloc (.cells #[.int .i64 slot] 3)).alloc (.cells #[.slice none 0 0] 25)).alloc (.cells #[.slice pa m cap] 88) = W0 := ⟨_, rfl⟩
  rw [hW0] at d0 d1 d2 g1 hB0 hsz ⊢
  clear hW0 e0 e1 e2
  refine wpIn_rangeFunc_ownH hro h1 (gf := 64) (lb := #[.pointer (some ⟨w.heap.size + 1 + 1, 0, none⟩)]) rfl hF2 (enters_of Try.func64 (by kernel_rfl) rfl)
    (back_stops F (n - 1) hF2 hro (by omega) (w.heap.size + 1 + 1) (w.heap.size + 3) g m cap pa HPA.out f HI.out (fun h => by have := hgl h; omega) hm W0 (by omega) (by omega) d2
      (fun j hj => ⟨(hB0.cell (p := ⟨g, j * 2, none⟩) (hgl (by omega))).trans (HC.out j hj).1, (hB0.cell (p := ⟨g, j * 2 + 1, none⟩) (hgl (by omega))).trans (HC.out j hj).2⟩)) (fun h k => h.trans k) (belowK_b (by omega)) (Below.refl _ _) (fun _ => rfl)
    (fun pre W => ((∀ y ∈ pre, (y : Wr).slot ≠ slot) ∧ W.cell? ⟨w.heap.size, 0, none⟩ = some (.int .i64 slot) ∧ W.cell? ⟨w.heap.size + 1, 0, none⟩ = some (.slice none 0 0) ∧ W.frozen? ⟨w.heap.size + 1, 0, none⟩ = false) ∧ Below W0.heap.size W0 W)
    (fun c pre W => (c = .ret ∧ ∃ pre' x, pre = pre' ++ [x] ∧ (∀ y ∈ pre', (y : Wr).slot ≠ slot) ∧ (x : Wr).slot = slot ∧ W.cell? ⟨w.heap.size + 1, 0, none⟩ = some (.slice x.a x.n x.c)) ∧ Below w.heap.size w W)
    (OwnFrom.and (Own.from (fun s A B row hs hg hr => ⟨hs.1, cell_kept hs.2.1 hg hr, cell_kept hs.2.2.1 hg hr, (frozen_kept hs.2.2.1 hg hr).trans hs.2.2.2⟩) _) (ownFrom_below (Nat.le_refl _) (Nat.le_refl _)))
    (fun c => OwnFrom.and (Own.from (fun s A B row hs hg hr => by obtain ⟨h1, pre', x, h2, h3, h4, h5⟩ := hs; exact ⟨h1, pre', x, h2, h3, h4, cell_kept h5 hg hr⟩) _) (ownFrom_below (Nat.le_refl _) (by omega)))
    ⟨⟨by simp, d0, d1, g1⟩, Below.refl _ _⟩
    (fun x a' W => ∃ Bx, w.heap.size + 2 < Bx ∧ W.cell? ⟨Bx, 0, none⟩ = some (.int .i64 x.slot) ∧ W.cell? ⟨Bx, 1, none⟩ = some (.slice x.a x.n x.c) ∧
      a' = { tmps := #[.pointer (some ⟨bk, 0, none⟩), .int .i64 slot, undef, .pointer (some ⟨w.heap.size, 0, none⟩), .pointer (some ⟨w.heap.size + 1, 0, none⟩), undef, .pointer (some ⟨Bx, 0, none⟩), .pointer (some ⟨bk, 0, none⟩), .pointer (some ⟨bk, 0, none⟩), .pointer (some ⟨bk, 2, none⟩), .slice pa m cap,
        .func (.func 64) #[] #[.pointer (some ⟨w.heap.size + 1 + 1, 0, none⟩)], .int .i64 x.idx, .agg #[.int .i64 x.slot, .slice x.a x.n x.c], undef, undef, undef, undef, undef, undef, undef, undef, undef, undef, undef, undef, undef], defers := [] })
    (fun x a' _ X Y row hs hg hr => by obtain ⟨Bx, h1, h2, h3, h4⟩ := hs; exact ⟨Bx, h1, cell_kept h2 hg (fun r e => (hr r e).2), cell_kept h3 hg (fun r e => (hr r e).2), h4⟩)
    ?assign ?body ?done ?stop
  case assign =>
    rintro l pre x W K ⟨⟨hp, h0, h1, hf⟩, hB⟩ hK
    have hsW := hB.size
    gi_wp2
    exact hK _ _ ((KeepsOthers.alloc _ _).from _) ((Below.refl _ W).alloc (by omega) _) ⟨⟨hp, cell_alloc_l _ h0, cell_alloc_l _ h1, frozen_alloc_l _ h1 hf⟩, hB.alloc hB.size _⟩
      ⟨W.heap.size, by omega, ((St.init W).alloc (.cells #[.int .i64 x.slot, .slice x.a x.n x.c] 92)).cell 0, ((St.init W).alloc (.cells #[.int .i64 x.slot, .slice x.a x.n x.c] 92)).cell 1, rfl⟩
  case body =>
    rintro l pre x a' W hl ⟨r, hr⟩ ⟨⟨hp, h0, h1, hf⟩, hB⟩ ⟨Bx, hBx, b0, b1, rfl⟩ hlt
    by_cases hs : x.slot = slot
    · have hs' : (x.slot == (slot : Int)) = true := by simpa using hs
      have HP := Lib.hid hp
      have HS := Lib.hid hs
      clear hp hs
      gi_wp2
      exact ⟨(KeepsOthers.setCell _ _ _).from _, ⟨rfl, pre, x, rfl, HP.out, HS.out, World.cell?_setCell_same' _ _ _ (by rw [h1]; rfl)⟩, (hB0.trans (hB.mono (by omega))).setCell (p := ⟨w.heap.size + 1, 0, none⟩) (by simp) _⟩
    · have hs' : (x.slot == (slot : Int)) = false := by simpa using hs
      have HP := Lib.hid hp
      have HS := Lib.hid hs
      clear hp hs
      gi_wp2
      exact ⟨KeepsFrom.refl _ _, Below.refl _ _, ⟨fun y hy => (List.mem_append.1 hy).elim (HP.out y) (fun e => by simp at e; subst e; exact HS.out), h0, h1, hf⟩, hB⟩
  case done =>
    rintro D ys W hD rfl ⟨⟨hp, h0, h1, hf⟩, hB⟩ hK
    have hV : nowV f slot (.slice la ll lc) m = .slice la ll lc := nowV_none f slot _ m fun j hj => hp (f j) (List.mem_map.2 ⟨m - 1 - j, List.mem_range.2 (by omega), by rw [show m - 1 - (m - 1 - j) = j by omega]⟩)
    have HV := Lib.hid hV
    have q0 : W.cell? ⟨bk, 1, none⟩ = some (.slice (some ⟨gl, 0, none⟩) nl cl) := ((hB0.trans (hB.mono (by omega))).cell (p := ⟨bk, 1, none⟩) hbkl).trans hL
    have q1 : W.cell? ⟨gl, slot, none⟩ = some (.slice la ll lc) := ((hB0.trans (hB.mono (by omega))).cell (p := ⟨gl, slot, none⟩) hgll).trans hLs
    have HP := Lib.hid hp
    clear hp hV HP
    gi_wp2
    gi_region
    all_goals gi_wp2
    all_goals
      have hK' : ((W.setCell ⟨w.heap.size + 1, 0, none⟩ (.slice la ll lc)).drew).heap[D]? = some (.deferred (some [])) := (KeepsOthers.setCell W ⟨w.heap.size + 1, 0, none⟩ (.slice la ll lc)).same D _ hK rfl
      have hcc : ((W.setCell ⟨w.heap.size + 1, 0, none⟩ (.slice la ll lc)).drew).cell? ⟨w.heap.size + 1, 0, none⟩ = some (.slice la ll lc) := World.cell?_setCell_same' _ _ _ (by rw [h1]; rfl)
      refine ⟨by simp, .inl ⟨_, _, rfl, run_takeDeferred hK', ?_⟩⟩
      have hc5 := cell_kept hcc (grownBy_putObj' _ D (.deferred none)) (fun r e => by cases e; exact ⟨_, hK', rfl⟩)
      refine ⟨.slice la ll lc, ?_, by rw [HV.out], (((hB0.trans (hB.mono (by omega))).setCell (p := ⟨w.heap.size + 1, 0, none⟩) (by simp) _).drew).trans (belowK_b (w := w) (Nat.le_refl _) _ D _ _ (by omega) hK' rfl rfl)⟩
      simp [results, Try.f61, go_sem, hc5]
  case stop =>
    rintro D c pre W hD ⟨k, hk, rfl⟩ ⟨⟨rfl, pre', x, hx, hne, hxs, hcr⟩, hB⟩ hK
    have hV : nowV f slot (.slice la ll lc) m = .slice x.a x.n x.c := by
      obtain ⟨hk0, hxk, hin⟩ := come_split hx
      have hpre : ∀ j, j < pre'.length → (f (m - 1 - j)).slot ≠ slot := fun j hj => hne _ (hin j hj)
      rw [nowV_hit f slot _ m pre'.length (by omega) hpre (by rw [← hxk]; exact hxs), ← hxk]
      rfl
    have HV := Lib.hid hV
    clear hV hx hne hxs
    gi_wp2
    refine ⟨by simp, .inl ⟨_, _, rfl, run_takeDeferred hK, ?_⟩⟩
    have hc5 := cell_kept hcr (grownBy_putObj' _ D (.deferred none)) (fun r e => by cases e; exact ⟨_, hK, rfl⟩)
    refine ⟨.slice x.a x.n x.c, ?_, by rw [HV.out], hB.trans (belowK_b (w := w) (Nat.le_refl _) W D _ _ (by omega) hK rfl rfl)⟩
    simp [results, Try.f61, go_sem, hc5]
theorem now_calls (bk gl g m cap nl cl slot : Nat) (pa : Option Addr) (hpa : 0 < m → pa = some ⟨g, 0, none⟩) (f : Nat → Wr) (hidx : ∀ q, (f q).idx = q) (hm : m ≤ 1000000) (w : World)
    (la : Option Addr) (ll lc : Nat) (hsl : slot < nl) (hnl : nl ≤ 64)
    (hP : w.cell? ⟨bk, 2, none⟩ = some (.slice pa m cap)) (hL : w.cell? ⟨bk, 1, none⟩ = some (.slice (some ⟨gl, 0, none⟩) nl cl)) (hLs : w.cell? ⟨gl, slot, none⟩ = some (.slice la ll lc))
    (hc : ∀ j, j < m → w.cell? ⟨g, j * 2, none⟩ = some (.int .i64 (f j).slot) ∧ w.cell? ⟨g, j * 2 + 1, none⟩ = some (.slice (f j).a (f j).n (f j).c)) :
    Calls Try.prog 61 #[.pointer (some ⟨bk, 0, none⟩), .int .i64 slot] w fun e W' => e = .returned (nowV f slot (.slice la ll lc) m) ∧ Below w.heap.size w W' :=
  callsIn_wide.1 (now_in Fence.wide 3 trivial trivial trivial rfl (Nat.le_refl _) bk gl g m cap nl cl slot pa hpa f hidx hm w la ll lc hsl hnl hP hL hLs hc)
end Go.Proofs.Yteikpbangjpilaa.DskN
