/- The document's records: in, sids, names, tables, one, four. No condition. -/
import Derived.Test.YtnfkcmcchkcflaaRcW3
import Derived.Test.YtnfkcmcchkcflaaRcD1
import Derived.Test.YtnfkcmcchkcflaaRd
set_option linter.unusedSimpArgs false
set_option linter.unusedVariables false
namespace Go.Proofs.Ytnfkcmcchkcflaa.RcD
open Go Go.RowKit Go.Proofs.Ytnfkcmcchkcflaa Go.Proofs.Ytnfkcmcchkcflaa.Sp Go.Proofs.Ytnfkcmcchkcflaa.Reg Go.Proofs.Ytnfkcmcchkcflaa.RcM Go.Proofs.Ytnfkcmcchkcflaa.SlW Go.Proofs.Ytnfkcmcchkcflaa.RcW Go.Proofs.Ytnfkcmcchkcflaa.Rd
set_option maxHeartbeats 400000 in
theorem rin_calls (n a b : Int) (w : World) : Calls Try.prog 30 #[.int .i64 n, .int .i64 a, .int .i64 b] w (RetA w (.bool (inn n a b))) := by
  unfold inn
  by_cases h1 : a ≤ n
  · by_cases h2 : n ≤ b
    · skip
      go_enter Try.func30, Try.ntmps30
      go_wp2_with fail
      go_ret
      exact ⟨by simp; omega, Add.refl w⟩
    · have h3 : b < n := by omega
      clear h2
      go_enter Try.func30, Try.ntmps30
      go_wp2_with fail
      go_ret
      exact ⟨by simp; omega, Add.refl w⟩
  · have h3 : n < a := by omega
    clear h1
    go_enter Try.func30, Try.ntmps30
    go_wp2_with fail
    go_ret
    exact ⟨by simp; omega, Add.refl w⟩
/-- How many Sids and Locs: as the document says. -/
def dSids (x : Sh) : Int := if 0 ≤ x.sids then 3 else 0
set_option maxHeartbeats 2000000 in
theorem rsids_calls (k : Nat) (h1 : 1 ≤ k) (h8 : k ≤ 8) (w : World) : Calls Try.prog 33 #[.int .i64 k] w (RetA w (.tuple #[.int .i64 (dSids (shp k)), .int .i64 (shp k).locs])) := by
  obtain rfl | rfl | rfl | rfl | rfl | rfl | rfl | rfl : k = 1 ∨ k = 2 ∨ k = 3 ∨ k = 4 ∨ k = 5 ∨ k = 6 ∨ k = 7 ∨ k = 8 := by omega
  all_goals
    clear h1 h8
    go_enter Try.func33, Try.ntmps33
    go_wp2_with fail
    go_ret2
    exact ⟨rfl, Add.refl w⟩
def nmA (x : Sh) : Array Value := #[.bool x.key, .bool (decide (0 ≤ x.n)), .bool x.sid, .bool x.colour, .bool x.table]
set_option maxHeartbeats 2000000 in
theorem rnames_calls (k : Nat) (h1 : 1 ≤ k) (h8 : k ≤ 8) (w : World) : Calls Try.prog 31 #[.int .i64 k] w (RetA w (.agg (nmA (shp k)))) := by
  obtain rfl | rfl | rfl | rfl | rfl | rfl | rfl | rfl : k = 1 ∨ k = 2 ∨ k = 3 ∨ k = 4 ∨ k = 5 ∨ k = 6 ∨ k = 7 ∨ k = 8 := by omega
  all_goals
    clear h1 h8
    go_enter Try.func31, Try.ntmps31
    go_wp2_with fail
  · exact bodyPost_ret (v := .agg (nmA (shp 1))) (results_cell_row rfl _ _ w.heap.size _ (nmA (shp 1)) (0, 0) _ rfl (heap_alloc_last _ _) Try.underlying61 rfl (by kernel_rfl)) rfl ⟨rfl, Add.alloc _ _⟩
  · exact bodyPost_ret (v := .agg (nmA (shp 2))) (results_cell_row rfl _ _ w.heap.size _ (nmA (shp 2)) (0, 0) _ rfl (heap_alloc_last _ _) Try.underlying61 rfl (by kernel_rfl)) rfl ⟨rfl, Add.alloc _ _⟩
  · exact bodyPost_ret (v := .agg (nmA (shp 3))) (results_cell_row rfl _ _ w.heap.size _ (nmA (shp 3)) (0, 0) _ rfl (heap_alloc_last _ _) Try.underlying61 rfl (by kernel_rfl)) rfl ⟨rfl, Add.alloc _ _⟩
  · exact bodyPost_ret (v := .agg (nmA (shp 4))) (results_cell_row rfl _ _ w.heap.size _ (nmA (shp 4)) (0, 0) _ rfl (heap_alloc_last _ _) Try.underlying61 rfl (by kernel_rfl)) rfl ⟨rfl, Add.alloc _ _⟩
  · exact bodyPost_ret (v := .agg (nmA (shp 5))) (results_cell_row rfl _ _ w.heap.size _ (nmA (shp 5)) (0, 0) _ rfl (heap_alloc_last _ _) Try.underlying61 rfl (by kernel_rfl)) rfl ⟨rfl, Add.alloc _ _⟩
  · exact bodyPost_ret (v := .agg (nmA (shp 6))) (results_cell_row rfl _ _ w.heap.size _ (nmA (shp 6)) (0, 0) _ rfl (heap_alloc_last _ _) Try.underlying61 rfl (by kernel_rfl)) rfl ⟨rfl, Add.alloc _ _⟩
  · exact bodyPost_ret (v := .agg (nmA (shp 7))) (results_cell_row rfl _ _ w.heap.size _ (nmA (shp 7)) (0, 0) _ rfl (heap_alloc_last _ _) Try.underlying61 rfl (by kernel_rfl)) rfl ⟨rfl, Add.alloc _ _⟩
  · exact bodyPost_ret (v := .agg (nmA (shp 8))) (results_cell_row rfl _ _ w.heap.size _ (nmA (shp 8)) (0, 0) _ rfl (heap_alloc_last _ _) Try.underlying61 rfl (by kernel_rfl)) rfl ⟨rfl, Add.alloc _ _⟩
def tbA (t : Tb) : Array Value := #[.int .i64 t.hot, .int .i64 t.warm, .int .i64 t.gap, .int .i64 t.add, .int .i64 t.top, .int .i64 t.half]
theorem tab_block (t : Tb) (w : World) : ((w.alloc (.cells (tbA t) 25)).alloc (.cells (tbA t) 66)).heap[w.heap.size + 1]? = some (.cells (tbA t) 66 (0, 0)) := by
  have e : (w.alloc (.cells (tbA t) 25)).heap.size = w.heap.size + 1 := by simp
  rw [← e]
  exact heap_alloc_last _ _
set_option maxHeartbeats 2000000 in
theorem rtables_calls (t : Tb) (w : World) : Calls Try.prog 34 #[tbV t] w (RetA w (.agg (tbA t))) := by
  unfold tbV
  have HA := Lib.hid ((Add.alloc w (.cells (tbA t) 25)).trans (Add.alloc _ (.cells (tbA t) 66)))
  have HX := Lib.hid (tab_block t w)
  unfold tbA at *
  go_enter Try.func34, Try.ntmps34
  go_wp2_with fail
  exact bodyPost_ret (v := .agg (tbA t)) (results_cell_row rfl _ _ (w.heap.size + 1) _ (tbA t) (0, 0) _ rfl (HX.out) Try.underlying66 rfl (by kernel_rfl)) rfl ⟨rfl, HA.out⟩
set_option maxHeartbeats 2000000 in
theorem rone_calls (n : Int) (w : World) (h0 : 0 ≤ n) (h1 : n < 256) : Calls Try.prog 35 #[.int .i64 n] w (RetA w (str [b1 n])) := by
  have hw : IntKind.u8.wrap n = n := by rw [IntKind.wrap_u8]; omega
  have s := (St.init w).alloc (.cells #[.int .u8 n] 5)
  have hb : (b1 n : UInt8).toNat = n.toNat := by have := b1_toNat h0 h1; omega
  have e1 : (.int .u8 n : Value) = bv (b1 n) := by unfold bv; rw [hb]; congr 1; omega
  have hbs : BS (w.alloc (.cells #[.int .u8 n] 5)) (.slice (some ⟨w.heap.size, 0, none⟩) 1 1) [b1 n] :=
    reads_lit (t := 5) (f := (0, 0)) (g := w.heap.size) (n := 1) (bs := [b1 n]) (C := #[.int .u8 n]) (by rw [e1]; rfl) rfl (by unfold maxLen; simp) _ _ (s.eq (sep_comm _ _))
  have hcv := run_str (P := Try.prog) Try.underlying32 Try.underlying5 Try.underlying9 hbs
  have HA := Lib.hid s.below
  clear s hb e1 hbs h0 h1
  go_enter Try.func35, Try.ntmps35
  go_wp2_with fail
  go_ret
  exact ⟨rfl, HA.out⟩
set_option maxHeartbeats 2000000 in
theorem rfour_calls (n : Int) (w : World) (h0 : 0 ≤ n) (h1 : n ≤ 2147483647) : Calls Try.prog 36 #[.int .i64 n] w (RetA w (str (be4 n))) := by
  have s := (St.init w).alloc (.cells #[bv (b1 (n / 16777216)), bv (b1 (n / 65536)), bv (b1 (n / 256)), bv (b1 n)] 5)
  have hbs : BS (w.alloc (.cells #[bv (b1 (n / 16777216)), bv (b1 (n / 65536)), bv (b1 (n / 256)), bv (b1 n)] 5)) (.slice (some ⟨w.heap.size, 0, none⟩) 4 4) (be4 n) :=
    reads_lit (t := 5) (f := (0, 0)) (g := w.heap.size) (n := 4) (bs := be4 n) rfl rfl (by unfold maxLen; simp [be4]) _ _ (s.eq (sep_comm _ _))
  have hcv := run_str (P := Try.prog) Try.underlying32 Try.underlying5 Try.underlying9 hbs
  have ha := s.below
  rw [b1_val (n := n / 16777216) (by omega), b1_val (n := n / 65536) (by omega), b1_val (n := n / 256) (by omega), b1_val h0, show n / 16777216 % 256 = n / 16777216 by omega] at hcv ha
  have HA := Lib.hid ha
  clear s hbs ha
  go_enter Try.func36, Try.ntmps36
  go_wp2_with fail
  go_ret
  exact ⟨rfl, HA.out⟩
end Go.Proofs.Ytnfkcmcchkcflaa.RcD
