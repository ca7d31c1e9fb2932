/- sync.Once over a struct that this proof owns; sync/atomic's Int64. -/
import Derived.Test.YtjnfhppjkadlpaaMgB
import Derived.Laws.LoneSync
import Derived.Laws.NewBlocks
import Derived.Defers
import Derived.Laws.Pointers
import Derived.RegionCalls

namespace Go.Proofs.Ytjnfhppjkadlpaa.GfO
open Go Go.RowKit Go.Proofs.Ytjnfhppjkadlpaa Go.Proofs.Ytjnfhppjkadlpaa.Sp Go.Proofs.Ytjnfhppjkadlpaa.Reg
theorem disable (w : World) : (callFunc 112 #[]).run Try.prog w = .ok (.value (.tuple #[])) w := run_call_mark0 Try.func112 (by kernel_rfl) (by kernel_rfl) (by kernel_rfl) .disable (by kernel_rfl) w
theorem enable (w : World) : (callFunc 114 #[]).run Try.prog w = .ok (.value (.tuple #[])) w := run_call_mark0 Try.func114 (by kernel_rfl) (by kernel_rfl) (by kernel_rfl) .enable (by kernel_rfl) w
theorem acquire (a : Addr) (w : World) : (callFunc 115 #[.pointer (some a)]).run Try.prog w = .ok (.value (.tuple #[])) w := run_call_marked Try.func115 (by kernel_rfl) (by kernel_rfl) (by kernel_rfl) .acquire (by kernel_rfl) a w
theorem releaseMerge (a : Addr) (w : World) : (callFunc 117 #[.pointer (some a)]).run Try.prog w = .ok (.value (.tuple #[])) w := run_call_marked Try.func117 (by kernel_rfl) (by kernel_rfl) (by kernel_rfl) .releaseMerge (by kernel_rfl) a w
theorem store_deferred (a : Addr) (x : Value) (u : FrameMode) (w : World) (hc : w.cell? a = some x) (hz : w.frozen? a = false) :
    CallsD Try.prog 106 #[.pointer (some a), .bool true] u w fun e u' w' => u' = u ∧ (e = .returned (.tuple #[]) ∧ w' = w.drew.setCell a (.int .u32 1)) := by
  have hc' : w.drew.cell? a = some x := by go_simp
  have hz' : w.drew.frozen? a = false := by go_simp
  have hst := run_call_store (P := Try.prog) Try.func110 (by kernel_rfl) (by kernel_rfl) (by kernel_rfl) (by kernel_rfl) (k := .u32) (y := 1) hc' hz'
  go_enter_d Try.func106, Try.ntmps106
  go_wp2
  go_region_calls
  all_goals (go_end0; exact ⟨rfl, rfl⟩)
set_option maxRecDepth 100000 in
set_option maxHeartbeats 1600000 in
theorem unlock_deferred (a : Addr) (u : FrameMode) (w : World) (hc : w.cell? a = some (.int .i32 1)) (hz : w.frozen? a = false) :
    CallsD Try.prog 105 #[.pointer (some a)] u w fun e u' w' => u' = u ∧ (e = .returned (.tuple #[]) ∧ w' = w.setCell a (.int .i32 0)) := by
  have hd := disable
  have he := enable
  have hr := releaseMerge
  have hadd := run_call_add (P := Try.prog) Try.func118 (by kernel_rfl) (by kernel_rfl) (by kernel_rfl) .i32 (by kernel_rfl) (y := -1) (s := 0) hc hz (by simp [go_sem]; rfl)
  have hcv := run_convert_to_unsafe (P := Try.prog) (src := 167) (dst := 171) Try.underlying167 Try.underlying171 (by kernel_rfl) hc
  go_enter_d Try.func105, Try.ntmps105
  go_wp2
  go_end0
  go_wp2
  go_end0
  exact ⟨rfl, rfl⟩
set_option maxRecDepth 100000 in
set_option maxHeartbeats 1600000 in
theorem lock_free (a : Addr) (w : World) (hc : w.cell? a = some (.int .i32 0)) (hz : w.frozen? a = false) :
    Calls Try.prog 104 #[.pointer (some a)] w fun e w' => e = .returned (.tuple #[]) ∧ w' = w.setCell a (.int .i32 1) := by
  have hd := disable
  have he := enable
  have ha := acquire
  have hcas := run_call_cas_hit (P := Try.prog) Try.func113 (by kernel_rfl) (by kernel_rfl) (by kernel_rfl) .i32 (by kernel_rfl) (y := 1) hc hz
  have hc' : (w.setCell a (.int .i32 1)).cell? a = some (.int .i32 1) := World.cell?_setCell_same w a _ hc
  have hcv := run_convert_to_unsafe (P := Try.prog) (src := 167) (dst := 171) Try.underlying167 Try.underlying171 (by kernel_rfl) hc'
  go_enter Try.func104, Try.ntmps104
  go_wp2
  first | go_end0 | (simp only [Exit.inBlock, Exit.then]; refine bodyPost_ret (results_none rfl _ _ _) rfl ?_) | refine bodyPost_ret (results_none rfl _ _ _) rfl ?_
  go_wp2
  go_end0
  exact ⟨rfl, rfl⟩
section
variable {B : Nat} {w0 : World} {R : HP}
set_option maxRecDepth 100000 in
set_option maxHeartbeats 1600000 in
/-- The slow road, nobody there: the lock is taken, the closure called, 'done' stored, the lock let go. -/
theorem slow_first (b : Nat) (t : TypeId) (c c2 : Array Value) (f : FuncId) (cap : Array Value) (x : Value) (R' : HP) (w : World) (h0 : c[0]? = some (.int .u32 0)) (h1 : c[1]? = some (.int .i32 0)) (g0 : c2[0]? = some x) (g1 : c2[1]? = some (.int .i32 1))
    (hf : ∀ w1 : World, (callFunc f cap).run Try.prog w1 = .ok (.enter f cap) w1)
    (hcl : ∀ w1, St B w0 w1 (pts b (.cells (c.setIfInBounds 1 (.int .i32 1)) t) * R) → Calls Try.prog f cap w1 fun e w2 => e = .returned (.tuple #[]) ∧ St B w0 w2 (pts b (.cells c2 t) * R'))
    (s : St B w0 w (pts b (.cells c t) * R)) :
    Calls Try.prog 94 #[.pointer (some ⟨b, 0, none⟩), .func (.func f) #[] cap] w fun e w' => e = .returned (.tuple #[]) ∧ St B w0 w' (pts b (.cells ((c2.setIfInBounds 0 (.int .u32 1)).setIfInBounds 1 (.int .i32 0)) t) * R') := by
  have a0 := (s.cell 0).trans h0
  have a1 := (s.cell 1).trans h1
  have z1 := s.free 1
  have hlk := lock_free ⟨b, 1, none⟩ w a1 z1
  have s1 := s.set 1 (.int .i32 1)
  have b0 : (w.setCell ⟨b, 1, none⟩ (.int .i32 1)).cell? ⟨b, 0, none⟩ = some (.int .u32 0) := (World.cell?_setCell_other _ ⟨b, 1, none⟩ ⟨b, 0, none⟩ _ (by simp)).trans a0
  have hl := run_call_load (P := Try.prog) Try.func103 (by kernel_rfl) (by kernel_rfl) (by kernel_rfl) .u32 (by kernel_rfl) (w := w.setCell ⟨b, 1, none⟩ (.int .i32 1)) (a := ⟨b, 0, none⟩) (x := 0) b0
  have hnot : ∀ (x : Bool) (w : World), (Op.unary .not (.bool x)).run Try.prog w = .ok (.bool (!x)) w := fun _ _ => rfl
  have hk := hcl _ s1
  have HK := Lib.hid hk
  clear s s1 a1 z1 hcl hk
  go_enter_defers Try.func94, Try.ntmps94
  go_wp2_with (first | (go_at_call 104; refine hlk.mono ?_; rintro e w' ⟨rfl, rfl⟩) | (go_at_call 93; go_in))
  refine HK.out.mono ?_
  rintro e w2 ⟨rfl, s2⟩
  have S2 := Lib.hid s2
  clear s2 HK hlk hl b0 a0
  go_wp2
  refine leaves_cons (f := 106) (args := #[.pointer (some ⟨b, 0, none⟩), .bool true]) (by simp) (by simp [go_sem]) ?_
  refine (store_deferred ⟨b, 0, none⟩ x .returning _ ((S2.out.cell 0).trans g0) (S2.out.free 0)).mono ?_
  rintro e u' w'' ⟨rfl, rfl, rfl⟩
  have s3 := S2.out.drew.set 0 (.int .u32 1)
  refine leaves_cons (f := 105) (args := #[.pointer (some ⟨b, 1, none⟩)]) (by simp [settle]) (by simp [go_sem]) ?_
  refine (unlock_deferred ⟨b, 1, none⟩ _ _ ((s3.cell 1).trans (by rw [Array.getElem?_setIfInBounds_ne (by decide)]; exact g1)) (s3.free 1)).mono ?_
  rintro e u' w'' ⟨rfl, rfl, rfl⟩
  have s4 := s3.set 1 (.int .i32 0)
  simp [Leaves, settle, results, Try.results94]
  exact s4
set_option maxRecDepth 100000 in
set_option maxHeartbeats 1600000 in
/-- '(*sync.Once).Do', not yet done. -/
theorem do_first (b : Nat) (t : TypeId) (c c2 : Array Value) (f : FuncId) (cap : Array Value) (x : Value) (R' : HP) (w : World) (h0 : c[0]? = some (.int .u32 0)) (h1 : c[1]? = some (.int .i32 0)) (g0 : c2[0]? = some x) (g1 : c2[1]? = some (.int .i32 1))
    (hf : ∀ w1 : World, (callFunc f cap).run Try.prog w1 = .ok (.enter f cap) w1)
    (hcl : ∀ w1, St B w0 w1 (pts b (.cells (c.setIfInBounds 1 (.int .i32 1)) t) * R) → Calls Try.prog f cap w1 fun e w2 => e = .returned (.tuple #[]) ∧ St B w0 w2 (pts b (.cells c2 t) * R'))
    (s : St B w0 w (pts b (.cells c t) * R)) :
    Calls Try.prog 74 #[.pointer (some ⟨b, 0, none⟩), .func (.func f) #[] cap] w fun e w' => e = .returned (.tuple #[]) ∧ St B w0 w' (pts b (.cells ((c2.setIfInBounds 0 (.int .u32 1)).setIfInBounds 1 (.int .i32 0)) t) * R') := by
  have hl := run_call_load (P := Try.prog) Try.func103 (by kernel_rfl) (by kernel_rfl) (by kernel_rfl) .u32 (by kernel_rfl) ((s.cell 0).trans h0)
  have hnot : ∀ (x : Bool) (w : World), (Op.unary .not (.bool x)).run Try.prog w = .ok (.bool (!x)) w := fun _ _ => rfl
  have HK := Lib.hid (slow_first b t c c2 f cap x R' w h0 h1 g0 g1 hf hcl s)
  clear s hcl hf
  go_enter Try.func74, Try.ntmps74
  go_wp2_with (go_at_call 93; go_in)
  refine HK.out.mono ?_
  rintro e w2 ⟨rfl, s2⟩
  have S2 := Lib.hid s2
  clear s2 HK
  go_wp2
  go_end0
  exact ⟨rfl, S2.out⟩
/-- Done already. -/
theorem do_done (a : Addr) (d : Int) (hd : ¬ d = 0) (fv : Value) (w : World) (h0 : w.cell? a = some (.int .u32 d)) :
    Calls Try.prog 74 #[.pointer (some a), fv] w fun e w' => e = .returned (.tuple #[]) ∧ w' = w := by
  have hl := run_call_load (P := Try.prog) Try.func103 (by kernel_rfl) (by kernel_rfl) (by kernel_rfl) .u32 (by kernel_rfl) h0
  have hnot : ∀ (x : Bool) (w : World), (Op.unary .not (.bool x)).run Try.prog w = .ok (.bool (!x)) w := fun _ _ => rfl
  have hd' : (d != 0) = true := by simp [hd]
  go_enter Try.func74, Try.ntmps74
  go_wp2
  go_end0
  exact ⟨rfl, rfl⟩
end
end Go.Proofs.Ytjnfhppjkadlpaa.GfO

namespace Go.Proofs.Ytjnfhppjkadlpaa.Gf
open Go Go.RowKit Go.Proofs.Ytjnfhppjkadlpaa Go.Proofs.Ytjnfhppjkadlpaa.Sp Go.Proofs.Ytjnfhppjkadlpaa.Reg
/-- Times 2. -/
def xt (x : Nat) : Nat := if 256 ≤ 2 * x then (2 * x) ^^^ 285 else 2 * x
def gexp : Nat → Nat
  | 0 => 1
  | k + 1 => xt (gexp k)
theorem xt_lt : ∀ x, x < 256 → xt x < 256 := by decide +kernel
theorem gexp_lt : ∀ k, gexp k < 256
  | 0 => by decide
  | k + 1 => xt_lt _ (gexp_lt k)
theorem gexp_255 : gexp 255 = 1 := by decide +kernel
theorem gexp_period (k : Nat) : gexp (k + 255) = gexp k := by
  induction k with
  | zero => exact gexp_255
  | succ k ih => show xt (gexp (k + 255)) = xt (gexp k); rw [ih]
theorem gexp_mod (k : Nat) : gexp (k % 255) = gexp k := by
  have : ∀ q r, gexp (r + 255 * q) = gexp r := fun q r => by
    induction q with
    | zero => rfl
    | succ q ih => rw [show r + 255 * (q + 1) = (r + 255 * q) + 255 by omega, gexp_period, ih]
  have q := this (k / 255) (k % 255)
  rw [Nat.mod_add_div] at q
  exact q.symm
def xtL (x : Nat) : Nat := xt x
/-- The first table behind so many rounds. -/
def expL (i : Nat) : List UInt8 := (List.range 510).map fun j => if j < i ∨ (255 ≤ j ∧ j < 255 + i) then UInt8.ofNat (gexp (j % 255)) else 0
theorem expL_len (i : Nat) : (expL i).length = 510 := by simp [expL]
theorem expL_zero : expL 0 = List.replicate 510 0 := by
  apply List.ext_getElem
  · rw [expL_len, List.length_replicate]
  · intro j h1 h2
    simp only [expL, List.getElem_map, List.getElem_range, List.getElem_replicate]
    rw [if_neg (by omega)]
theorem expL_step (i : Nat) (hi : i < 255) : ((expL i).set i (UInt8.ofNat (gexp i))).set (i + 255) (UInt8.ofNat (gexp i)) = expL (i + 1) := by
  apply List.ext_getElem
  · simp [expL]
  · intro j h1 h2
    have hj : j < 510 := by simpa [expL] using h2
    simp only [expL, List.getElem_set, List.getElem_map, List.getElem_range]
    by_cases e1 : i + 255 = j
    · rw [if_pos e1, if_pos (by omega), show j % 255 = i by omega]
    · rw [if_neg e1]
      by_cases e2 : i = j
      · rw [if_pos e2, if_pos (by omega), show j % 255 = i by omega]
      · rw [if_neg e2]
        by_cases e3 : j < i ∨ (255 ≤ j ∧ j < 255 + i)
        · rw [if_pos e3, if_pos (by omega)]
        · rw [if_neg e3, if_neg (by omega)]
theorem expL_get (j : Nat) (hj : j < 510) : (expL 255)[j]? = some (UInt8.ofNat (gexp j)) := by
  have h : j < (expL 255).length := by rw [expL_len]; exact hj
  rw [List.getElem?_eq_getElem h]
  simp only [expL, List.getElem_map, List.getElem_range]
  rw [if_pos (by omega), gexp_mod]
/-- The second table behind so many rounds. -/
def logL : Nat → List Nat
  | 0 => List.replicate 256 0
  | i + 1 => (logL i).set (gexp i) i
theorem logL_len : ∀ i, (logL i).length = 256
  | 0 => List.length_replicate
  | i + 1 => by simp [logL, logL_len i]
/-- A byte's logarithm. -/
def glog (a : Nat) : Nat := (logL 255).getD a 0
theorem glog_lt : ∀ a, a < 256 → glog a < 255 := by decide +kernel
theorem gexp_glog : ∀ a, a < 256 → a ≠ 0 → gexp (glog a) = a := by decide +kernel
theorem glog_gexp : ∀ k, k < 255 → glog (gexp k) = k := by decide +kernel
theorem gexp_ne (k : Nat) : gexp k ≠ 0 := by
  rw [← gexp_mod]
  have : ∀ k, k < 255 → gexp k ≠ 0 := by decide +kernel
  exact this _ (Nat.mod_lt _ (by decide))
theorem logL_get (a : Nat) (ha : a < 256) : (logL 255)[a]? = some (glog a) := by
  have h : a < (logL 255).length := by rw [logL_len]; exact ha
  rw [List.getElem?_eq_getElem h]
  simp [glog, List.getD_eq_getElem?_getD, h]
/-- What the struct's cells hold. -/
def fc (d st m : Int) (E : List UInt8) (L : List Nat) : Array Value := (([.int .u32 d, .int .i32 st, .int .u32 0, .int .i64 m] : List Value) ++ (bvs E ++ L.map fun n : Nat => Value.int .i64 (n : Int))).toArray
section
variable {d st m : Int} {E : List UInt8} {L : List Nat}
theorem fc_exp (j : Nat) (hj : j < E.length) : (fc d st m E L)[4 + j]? = some (bv E[j]) := by
  simp only [fc, List.getElem?_toArray]
  rw [List.getElem?_append_right (by simp), List.getElem?_append_left (by simp [bvs]; omega)]
  simp [bvs, hj]
theorem fc_log (j : Nat) (hE : E.length = 510) (hj : j < L.length) : (fc d st m E L)[514 + j]? = some (.int .i64 (L[j] : Nat)) := by
  simp only [fc, List.getElem?_toArray]
  rw [List.getElem?_append_right (by simp; omega), List.getElem?_append_right (by simp [bvs]; omega)]
  simp only [List.length_cons, List.length_nil, bvs, List.length_map, hE, List.getElem?_map]
  rw [show 514 + j - (0 + 1 + 1 + 1 + 1) - 510 = j by omega, List.getElem?_eq_getElem hj]
  rfl
theorem fc_setE (j : Nat) (x : UInt8) (hj : j < E.length) : (fc d st m E L).setIfInBounds (4 + j) (bv x) = fc d st m (E.set j x) L := by
  simp only [fc, List.setIfInBounds_toArray]
  rw [List.set_append_right _ _ (by simp), List.set_append_left _ _ (by simp [bvs]; omega)]
  simp [bvs, List.map_set]
theorem fc_setL (j n : Nat) (hE : E.length = 510) (_hj : j < L.length) : (fc d st m E L).setIfInBounds (514 + j) (.int .i64 (n : Int)) = fc d st m E (L.set j n) := by
  simp only [fc, List.setIfInBounds_toArray]
  rw [List.set_append_right _ _ (by simp; omega), List.set_append_right _ _ (by simp [bvs]; omega)]
  simp only [List.length_cons, List.length_nil, bvs, List.length_map, hE]
  rw [show 514 + j - (0 + 1 + 1 + 1 + 1) - 510 = j by omega, List.map_set]
theorem fc_set0 (x : Int) : (fc d st m E L).setIfInBounds 0 (.int .u32 x) = fc x st m E L := by simp [fc]
theorem fc_set1 (x : Int) : (fc d st m E L).setIfInBounds 1 (.int .i32 x) = fc d x m E L := by simp [fc]
theorem fc_set3 (x : Int) : (fc d st m E L).setIfInBounds 3 (.int .i64 x) = fc d st x E L := by simp [fc]
theorem fc_0 : (fc d st m E L)[0]? = some (.int .u32 d) := by simp [fc]
theorem fc_1 : (fc d st m E L)[1]? = some (.int .i32 st) := by simp [fc]
theorem fc_3 : (fc d st m E L)[3]? = some (.int .i64 m) := by simp [fc]
end
theorem bits_xor_i64 (a b : Nat) (ha : a < 2 ^ 63) (hb : b < 2 ^ 63) : bits .xor .i64 (a : Int) (b : Int) = ((a ^^^ b : Nat) : Int) := by
  have e1 : ∀ n : Nat, n < 2 ^ 63 → (BitVec.ofInt 64 (n : Int)).toNat = n := fun n h => by rw [BitVec.toNat_ofInt]; omega
  have hx : a ^^^ b < 2 ^ 63 := Nat.xor_lt_two_pow ha hb
  show IntKind.i64.wrap ((BitVec.ofInt 64 (a : Int) ^^^ BitVec.ofInt 64 (b : Int)).toNat : Nat) = _
  rw [BitVec.toNat_xor, e1 _ ha, e1 _ hb, IntKind.wrap_i64]
  omega
end Go.Proofs.Ytjnfhppjkadlpaa.Gf

namespace Go.Proofs.Ytjnfhppjkadlpaa.Gf
open Go Go.RowKit Go.Proofs.Ytjnfhppjkadlpaa Go.Proofs.Ytjnfhppjkadlpaa.Sp Go.Proofs.Ytjnfhppjkadlpaa.Reg Go.Proofs.Ytjnfhppjkadlpaa.GfO
section
variable {B : Nat} {w0 : World} {R : HP}
/-- The field while its tables are made. -/
def mk (b : Nat) (E : List UInt8) (L : List Nat) (pl : Nat) (R : HP) : HP := pts b (.cells (fc 0 1 0 E L) 92) * (pts pl (.cells #[.pointer (some ⟨b, 0, none⟩)] 22) * R)
theorem mixed : Try.prog.follows .mixedOrders = true := by kernel_rfl
theorem mk_p {b pl : Nat} {E : List UInt8} {L : List Nat} {w : World} (s : St B w0 w (mk b E L pl R)) : w.cell? ⟨pl, 0, none⟩ = some (.pointer (some ⟨b, 0, none⟩)) := ((show St B w0 w (pts b (.cells (fc 0 1 0 E L) 92) * (pts pl (.cells #[.pointer (some ⟨b, 0, none⟩)] 22) * R)) from s).eq (sep_left_comm _ _ _)).cell 0
theorem mk_setE {b pl : Nat} {E : List UInt8} {L : List Nat} {w : World} (s : St B w0 w (mk b E L pl R)) (j : Nat) (hj : j < E.length) (x : UInt8) :
    w.cell? ⟨b, 4 + j, none⟩ = some (bv E[j]) ∧ w.frozen? ⟨b, 4 + j, none⟩ = false ∧ St B w0 (w.setCell ⟨b, 4 + j, none⟩ (bv x)) (mk b (E.set j x) L pl R) := by
  refine ⟨(St.cell s (4 + j)).trans (fc_exp j hj), St.free s (4 + j), ?_⟩
  have q := St.set s (4 + j) (bv x)
  rw [fc_setE j x hj] at q
  exact q
theorem mk_setL {b pl : Nat} {E : List UInt8} {L : List Nat} {w : World} (s : St B w0 w (mk b E L pl R)) (hE : E.length = 510) (j : Nat) (hj : j < L.length) (n : Nat) :
    w.cell? ⟨b, 514 + j, none⟩ = some (.int .i64 (L[j] : Nat)) ∧ w.frozen? ⟨b, 514 + j, none⟩ = false ∧ St B w0 (w.setCell ⟨b, 514 + j, none⟩ (.int .i64 (n : Int))) (mk b E (L.set j n) pl R) := by
  refine ⟨(St.cell s (514 + j)).trans (fc_log j hE hj), St.free s (514 + j), ?_⟩
  have q := St.set s (514 + j) (.int .i64 (n : Int))
  rw [fc_setL j n hE hj] at q
  exact q
def EJ (k : Nat) (j : Nat) : List UInt8 := match j with
  | 0 => expL k
  | 1 => (expL k).set k (UInt8.ofNat (gexp k))
  | _ => expL (k + 1)
set_option maxRecDepth 100000 in
set_option maxHeartbeats 4000000 in
theorem fill_calls (b pl : Nat) (w : World) (s : St B w0 w (mk b (expL 0) (logL 0) pl R)) :
    Calls Try.prog 75 #[.pointer (some ⟨pl, 0, none⟩)] w fun e w' => e = .returned (.tuple #[]) ∧ St B w0 w' (pts b (.cells (fc 0 1 1 (expL 255) (logL 255)) 92) * (pts pl (.cells #[.pointer (some ⟨b, 0, none⟩)] 22) * R)) := by
  have S := Lib.hid s
  clear s
  go_enter Try.func75, Try.ntmps75
  go_wp2_with fail
  go_loopw [1, 3] (fun x i wr => ∃ k : Nat, k ≤ 255 ∧ x = .int .i64 (gexp k : Nat) ∧ i = .int .i64 k ∧ St B w0 wr (mk b (expL k) (logL k) pl R)) (fun _ i _ => 255 - (intOf i).toNat)
  case atStart => exact ⟨0, Nat.zero_le _, rfl, rfl, S.out⟩
  case round =>
    obtain ⟨k, hk, rfl, rfl, s⟩ := hrel
    clear S
    have S := Lib.hid s
    clear s
    have hg := gexp_lt k
    by_cases hlt : k < 255
    · have hv : bv (UInt8.ofNat (gexp k)) = .int .u8 (gexp k : Nat) := by
        show Value.int .u8 (((UInt8.ofNat (gexp k)).toNat : Nat) : Int) = _
        rw [UInt8.toNat_ofNat', Nat.mod_eq_of_lt hg]
      have HV := Lib.hid hv
      clear hv
      go_wp2_with fail
      have st1 : ∀ w', St B w0 w' (mk b (EJ k 0) (logL k) pl R) → w'.cell? ⟨b, 4 + k, none⟩ = some (bv ((expL k)[k]'(by rw [expL_len]; omega))) ∧ w'.frozen? ⟨b, 4 + k, none⟩ = false ∧ St B w0 (w'.setCell ⟨b, 4 + k, none⟩ (bv (UInt8.ofNat (gexp k)))) (mk b (EJ k 1) (logL k) pl R) := fun w' s => mk_setE s k (by show k < (expL k).length; rw [expL_len]; omega) _
      have st2 : ∀ w', St B w0 w' (mk b (EJ k 1) (logL k) pl R) → w'.cell? ⟨b, 4 + (k + 255), none⟩ = some (bv (((expL k).set k (UInt8.ofNat (gexp k)))[k + 255]'(by rw [List.length_set, expL_len]; omega))) ∧ w'.frozen? ⟨b, 4 + (k + 255), none⟩ = false ∧ St B w0 (w'.setCell ⟨b, 4 + (k + 255), none⟩ (bv (UInt8.ofNat (gexp k)))) (mk b (EJ k 2) (logL k) pl R) := fun w' s => by
        have h := mk_setE s (k + 255) (by show k + 255 < ((expL k).set k _).length; rw [List.length_set, expL_len]; omega) (UInt8.ofNat (gexp k))
        refine ⟨h.1, h.2.1, ?_⟩
        have q := h.2.2
        rw [show (EJ k 1).set (k + 255) (UInt8.ofNat (gexp k)) = EJ k 2 from expL_step k hlt] at q
        exact q
      refine wp_region_rx (fun j w' => St B w0 w' (mk b (EJ k j) (logL k) pl R)) [12, 16] mixed (by kernel_rfl) (by kernel_rfl) S.out.drew ?_
      refine RXl.exact (.pointer (some ⟨b, 0, none⟩)) rfl rfl rfl rfl rfl (fun j τ w' hj hJ => by have c := mk_p hJ; simp [rho, upd, Spec.val, execOp, go_sem, c]) ?_
      refine RXl.exact (.int .i64 (k : Int)) rfl rfl rfl rfl rfl (fun _ _ _ _ _ => rfl) ?_
      refine RXl.exact (.pointer (some ⟨b, 0, none⟩)) rfl rfl rfl rfl rfl (fun j τ w' hj hJ => by have c := mk_p hJ; simp [rho, upd, Spec.val, execOp, go_sem, c]) ?_
      refine RXl.exact (.int .i64 (k : Int)) rfl rfl rfl rfl rfl (fun _ _ _ _ _ => rfl) ?_
      refine RXl.exact (.int .i64 ((k + 255 : Nat) : Int)) rfl rfl rfl rfl rfl (fun j τ w' hj hJ => by simp [rho, upd, Spec.val, execOp, go_sem]; rw [IntKind.wrap_i64]; omega) ?_
      refine RXl.exact (.int .i64 (gexp k : Nat)) rfl rfl rfl rfl rfl (fun _ _ _ _ _ => rfl) ?_
      refine RXl.exact (bv (UInt8.ofNat (gexp k))) rfl rfl rfl rfl rfl (fun j τ w' hj hJ => by rw [HV.out]; simp [rho, upd, Spec.val, execOp, go_sem]; rw [IntKind.wrap_u8]; omega) ?_
      refine RXl.exact (.int .i64 (gexp k : Nat)) rfl rfl rfl rfl rfl (fun _ _ _ _ _ => rfl) ?_
      refine RXl.exact (bv (UInt8.ofNat (gexp k))) rfl rfl rfl rfl rfl (fun j τ w' hj hJ => by rw [HV.out]; simp [rho, upd, Spec.val, execOp, go_sem]; rw [IntKind.wrap_u8]; omega) ?_
      refine RXl.exact (.pointer (some ⟨b, 0, none⟩)) rfl rfl rfl rfl rfl (fun j τ w' hj hJ => by simp [rho, upd, Spec.val, execOp, go_sem]) ?_
      refine RXl.exact (.pointer (some ⟨b, 4, none⟩)) rfl rfl rfl rfl rfl (fun j τ w' hj hJ => by simp [rho, upd, Spec.val, execOp, go_sem]) ?_
      refine RXl.exact (.pointer (some ⟨b, 4 + k, none⟩)) rfl rfl rfl rfl rfl (fun j τ w' hj hJ => by simp [rho, upd, Spec.val, execOp, go_sem]; omega) ?_
      refine RXl.effj 0 rfl rfl rfl rfl rfl rfl (fun w' hJ => (let h := st1 w' hJ; ⟨_, exec_store rfl rfl rfl rfl (by kernel_rfl) h.1 h.2.1, h.2.2⟩)) ?_
      refine RXl.exact (.pointer (some ⟨b, 0, none⟩)) rfl rfl rfl rfl rfl (fun j τ w' hj hJ => by simp [rho, upd, Spec.val, execOp, go_sem]) ?_
      refine RXl.exact (.pointer (some ⟨b, 4, none⟩)) rfl rfl rfl rfl rfl (fun j τ w' hj hJ => by simp [rho, upd, Spec.val, execOp, go_sem]) ?_
      refine RXl.exact (.pointer (some ⟨b, 4 + (k + 255), none⟩)) rfl rfl rfl rfl rfl (fun j τ w' hj hJ => by have t1 : ((k : Int) + 255).toNat = k + 255 := (by omega); have t2 : (0 : Int) ≤ (k : Int) + 255 := (by omega); have t3 : (k : Int) + 255 < 510 := (by omega); simp [rho, upd, Spec.val, execOp, go_sem, t1, t2, t3]) ?_
      refine RXl.effj 1 rfl rfl rfl rfl rfl rfl (fun w' hJ => (let h := st2 w' hJ; ⟨_, exec_store rfl rfl rfl rfl (by kernel_rfl) h.1 h.2.1, h.2.2⟩)) ?_
      refine RXl.nilx _ (Agr.upd _ _ (Agr.upd _ _ (Agr.upd _ _ (Agr.upd _ _ (Agr.upd _ _ (Agr.upd _ _ (Agr.upd _ _ (Agr.upd _ _ (Agr.upd _ _ (Agr.upd _ _ (Agr.upd _ _ (Agr.upd _ _ (Agr.upd _ _ (Agr.upd _ _ (Agr.upd _ _ (Agr.base _)))))))))))))))) fun w8 hJ => ?_
      obtain ⟨_, hJ⟩ := hJ
      simp only [Act.put, List.setIfInBounds_toArray, List.set_cons_succ, List.set_cons_zero]
      have s8 : St B w0 w8 (mk b (expL (k + 1)) (logL k) pl R) := hJ
      have c0 := mk_p s8
      obtain ⟨c1, f1, hst⟩ := mk_setL s8 (expL_len _) (gexp k) (by rw [logL_len]; exact hg) k
      have HST := Lib.hid (show St B w0 (w8.setCell ⟨b, 514 + gexp k, none⟩ (.int .i64 (k : Int))) (mk b (expL (k + 1)) (logL (k + 1)) pl R) from hst)
      generalize bv_ : (logL k)[gexp k]'(by rw [logL_len]; exact hg) = old at c1
      clear st1 st2 hJ s8 hst S HV
      have d1 : (gexp k : Int) * 2 < 256 → gexp (k + 1) = 2 * gexp k := fun h => by
        show xt (gexp k) = _
        unfold xt
        rw [if_neg (by omega)]
      have d2 : 256 ≤ (gexp k : Int) * 2 → bits .xor .i64 ((gexp k : Int) * 2) 285 = (gexp (k + 1) : Nat) := fun h => by
        rw [show (gexp k : Int) * 2 = ((2 * gexp k : Nat) : Int) by omega, show (285 : Int) = ((285 : Nat) : Int) from rfl, bits_xor_i64 _ _ (by omega) (by decide)]
        show _ = ((xt (gexp k) : Nat) : Int)
        unfold xt
        rw [if_pos (by omega)]
      have D1 := Lib.hid d1
      have D2 := Lib.hid d2
      clear d1 d2
      go_wp2_with fail
      all_goals rename_i hh
      all_goals first
        | exact ⟨⟨k + 1, by omega, by rw [D2.out hh], by go_num, HST.out⟩, by simp [intOf]; omega⟩
        | exact ⟨⟨k + 1, by omega, by rw [D1.out hh]; congr 1; omega, by go_num, HST.out⟩, by simp [intOf]; omega⟩
    · obtain rfl : k = 255 := by omega
      clear hlt
      have s := S.out
      have c0 := mk_p s
      have c3 := (St.cell s 3).trans fc_3
      have hadd := run_call_add (P := Try.prog) Try.func95 (by kernel_rfl) (by kernel_rfl) (by kernel_rfl) .i64 (by kernel_rfl) (y := 1) (s := 1) c3 (St.free s 3) (by simp [go_sem]; rfl)
      have HST := Lib.hid (St.set s 3 (.int .i64 1))
      clear s c3 S
      go_wp2_with (go_at_call 76; go_in)
      go_end0
      refine ⟨rfl, ?_⟩
      have q := HST.out
      rw [fc_set3] at q
      exact q
/-- A field, its tables made or not. -/
def fo (b : Nat) (m : Bool) : HP := pts b (.cells (if m then fc 1 0 1 (expL 255) (logL 255) else fc 0 0 0 (expL 0) (logL 0)) 92)
set_option maxRecDepth 100000 in
set_option maxHeartbeats 4000000 in
theorem tables_calls (b : Nat) (m : Bool) (w : World) (s : St B w0 w (fo b m * R)) :
    Calls Try.prog 61 #[.pointer (some ⟨b, 0, none⟩)] w fun e w' => e = .returned (.tuple #[]) ∧ St B w0 w' (fo b true * R) := by
  have hmf : ∀ (fn : Fn) (first cap : Array Value) (w : World), (Instr.makeFunc fn first cap).run Try.prog w = .ok (.func fn first cap) w := fun _ _ _ _ => rfl
  have s1 := s.alloc (.cells #[.pointer (some ⟨b, 0, none⟩)] 22)
  have c0 := s1.cell 0
  have s2 := s1.eq (sep_left_comm _ _ _)
  have S2 := Lib.hid s2
  clear s s1 s2
  simp at c0
  cases m with
  | true =>
    have HD := Lib.hid (do_done ⟨b, 0, none⟩ 1 (by decide) (.func (.func 75) #[] #[.pointer (some ⟨w.heap.size, 0, none⟩)]) _ ((St.cell S2.out 0).trans fc_0))
    go_enter Try.func61, Try.ntmps61
    go_wp2_with fail
    refine HD.out.mono ?_
    rintro e w2 ⟨rfl, rfl⟩
    have HE := Lib.hid ((St.eq (sep_left_comm _ _ _) S2.out).right)
    clear HD S2
    go_wp2_with fail
    go_end0
    exact ⟨rfl, HE.out⟩
  | false =>
    have HD := Lib.hid (do_first b 92 (fc 0 0 0 (expL 0) (logL 0)) (fc 0 1 1 (expL 255) (logL 255)) 75 #[.pointer (some ⟨w.heap.size, 0, none⟩)] (.int .u32 0) (pts w.heap.size (.cells #[.pointer (some ⟨b, 0, none⟩)] 22) * R) _ fc_0 fc_1 fc_0 fc_1 (fun _ => rfl) (fun w1 s => by rw [fc_set1] at s; exact fill_calls b w.heap.size w1 s) S2.out)
    go_enter Try.func61, Try.ntmps61
    go_wp2_with fail
    refine HD.out.mono ?_
    rintro e w2 ⟨rfl, s3⟩
    rw [fc_set0, fc_set1] at s3
    have HE := Lib.hid ((s3.eq (sep_left_comm _ _ _)).right)
    clear HD S2 s3
    go_wp2_with fail
    go_end0
    exact ⟨rfl, HE.out⟩
end
end Go.Proofs.Ytjnfhppjkadlpaa.Gf

namespace Go.Proofs.Ytjnfhppjkadlpaa.Gf
open Go Go.RowKit Go.Proofs.Ytjnfhppjkadlpaa Go.Proofs.Ytjnfhppjkadlpaa.Sp Go.Proofs.Ytjnfhppjkadlpaa.Reg Go.Proofs.Ytjnfhppjkadlpaa.GfO
/-- Product. -/
def gmul (a b : UInt8) : UInt8 := if a = 0 ∨ b = 0 then 0 else UInt8.ofNat (gexp (glog a.toNat + glog b.toNat))
def ginv (a : UInt8) : UInt8 := if a = 0 then 0 else UInt8.ofNat (gexp (255 - glog a.toNat))
def gpow (a : UInt8) (n : Int) : UInt8 := if n = 0 then 1 else if a = 0 then 0 else UInt8.ofNat (gexp (glog a.toNat * (n % 255).toNat % 255))
def gok (a : UInt8) : Bool := !decide (a = 0)
section
variable {B : Nat} {w0 : World} {R : HP}
/-- What is handed back, and the field behind it. -/
def RetF (B : Nat) (w0 : World) (b : Nat) (R : HP) (v : Value) : Ending → World → Prop := fun e w' => e = .returned v ∧ ∃ m, St B w0 w' (fo b m * R)
theorem fo_log {b : Nat} {w : World} (s : St B w0 w (fo b true * R)) (a : UInt8) : w.cell? ⟨b, 514 + a.toNat, none⟩ = some (.int .i64 (glog a.toNat : Nat)) := by
  have ha : a.toNat < 256 := a.toNat_lt
  have h : a.toNat < (logL 255).length := by rw [logL_len]; exact ha
  rw [St.cell s, if_pos rfl, fc_log _ (expL_len _) h]
  have q := logL_get a.toNat ha
  rw [List.getElem?_eq_getElem h] at q
  rw [Option.some.inj q]
theorem fo_exp {b : Nat} {w : World} (s : St B w0 w (fo b true * R)) (j : Nat) (hj : j < 510) : w.cell? ⟨b, 4 + j, none⟩ = some (bv (UInt8.ofNat (gexp j))) := by
  have h : j < (expL 255).length := by rw [expL_len]; exact hj
  rw [St.cell s, if_pos rfl, fc_exp _ h]
  have q := expL_get j hj
  rw [List.getElem?_eq_getElem h] at q
  rw [Option.some.inj q]
theorem u8_pos {a : UInt8} (h : ¬ a = 0) : ¬ (a.toNat : Int) = 0 := fun e => h (UInt8.toNat_inj.1 (by simp; omega))
set_option maxRecDepth 100000 in
set_option maxHeartbeats 4000000 in
theorem mul_calls (b : Nat) (m : Bool) (x y : UInt8) (w : World) (s : St B w0 w (fo b m * R)) :
    Calls Try.prog 65 #[.pointer (some ⟨b, 0, none⟩), bv x, bv y] w (RetF B w0 b R (bv (gmul x y))) := by
  have S := Lib.hid s
  clear s
  by_cases hx : x = 0
  · subst hx
    have hz : gmul 0 y = 0 := by simp [gmul]
    rw [hz]
    go_enter Try.func65, Try.ntmps65
    go_wp2_with fail
    go_ret
    exact ⟨rfl, m, S.out⟩
  · by_cases hy : y = 0
    · subst hy
      have hz : gmul x 0 = 0 := by simp [gmul]
      rw [hz]
      have hx0 := u8_pos hx
      have hx1 : ((x.toNat : Int) == 0) = false := by simpa using hx0
      clear hx hx0
      go_enter Try.func65, Try.ntmps65
      go_wp2_with fail
      go_ret
      exact ⟨rfl, m, S.out⟩
    · have hz : gmul x y = UInt8.ofNat (gexp (glog x.toNat + glog y.toNat)) := by unfold gmul; rw [if_neg (by simp [hx, hy])]
      rw [hz]
      have hx1 : ((x.toNat : Int) == 0) = false := by simpa using u8_pos hx
      have hy1 : ((y.toNat : Int) == 0) = false := by simpa using u8_pos hy
      have g1 := glog_lt x.toNat x.toNat_lt
      have g2 := glog_lt y.toNat y.toNat_lt
      have l1 : x.toNat < 256 := x.toNat_lt
      have l2 : y.toNat < 256 := y.toNat_lt
      clear hx hy hz
      go_enter Try.func65, Try.ntmps65
      go_wp2_with fail
      refine (tables_calls b m w S.out).mono ?_
      rintro e w2 ⟨rfl, s2⟩
      have S2 := Lib.hid s2
      clear s2 S
      go_wp2_with fail
      refine wp_region_rx (fun _ w' => St B w0 w' (fo b true * R)) [] mixed (by kernel_rfl) (by kernel_rfl) S2.out.drew ?_
      refine RXl.exact (.pointer (some ⟨b, 0, none⟩)) rfl rfl rfl rfl rfl (fun _ _ _ _ _ => rfl) ?_
      refine RXl.exact (.pointer (some ⟨b, 0, none⟩)) rfl rfl rfl rfl rfl (fun _ _ _ _ _ => rfl) ?_
      refine RXl.exact (bv x) rfl rfl rfl rfl rfl (fun _ _ _ _ _ => rfl) ?_
      refine RXl.exact (.pointer (some ⟨b, 0, none⟩)) rfl rfl rfl rfl rfl (fun j τ w' hj hJ => by simp [rho, upd, Spec.val, execOp, go_sem]) ?_
      refine RXl.exact (.pointer (some ⟨b, 514, none⟩)) rfl rfl rfl rfl rfl (fun j τ w' hj hJ => by simp [rho, upd, Spec.val, execOp, go_sem]) ?_
      refine RXl.exact (.pointer (some ⟨b, 514 + x.toNat, none⟩)) rfl rfl rfl rfl rfl (fun j τ w' hj hJ => by simp [rho, upd, Spec.val, execOp, go_sem, bv]; intro hh; omega) ?_
      refine RXl.exact (.int .i64 (glog x.toNat : Nat)) rfl rfl rfl rfl rfl (fun j τ w' hj hJ => by have c := fo_log hJ x; simp [rho, upd, Spec.val, execOp, go_sem, c]) ?_
      refine RXl.exact (.pointer (some ⟨b, 0, none⟩)) rfl rfl rfl rfl rfl (fun _ _ _ _ _ => rfl) ?_
      refine RXl.exact (bv y) rfl rfl rfl rfl rfl (fun _ _ _ _ _ => rfl) ?_
      refine RXl.exact (.pointer (some ⟨b, 0, none⟩)) rfl rfl rfl rfl rfl (fun j τ w' hj hJ => by simp [rho, upd, Spec.val, execOp, go_sem]) ?_
      refine RXl.exact (.pointer (some ⟨b, 514, none⟩)) rfl rfl rfl rfl rfl (fun j τ w' hj hJ => by simp [rho, upd, Spec.val, execOp, go_sem]) ?_
      refine RXl.exact (.pointer (some ⟨b, 514 + y.toNat, none⟩)) rfl rfl rfl rfl rfl (fun j τ w' hj hJ => by simp [rho, upd, Spec.val, execOp, go_sem, bv]; intro hh; omega) ?_
      refine RXl.exact (.int .i64 (glog y.toNat : Nat)) rfl rfl rfl rfl rfl (fun j τ w' hj hJ => by have c := fo_log hJ y; simp [rho, upd, Spec.val, execOp, go_sem, c]) ?_
      refine RXl.exact (.int .i64 ((glog x.toNat + glog y.toNat : Nat) : Int)) rfl rfl rfl rfl rfl (fun j τ w' hj hJ => by simp [rho, upd, Spec.val, execOp, go_sem]; rw [IntKind.wrap_i64]; omega) ?_
      refine RXl.exact (.pointer (some ⟨b, 0, none⟩)) rfl rfl rfl rfl rfl (fun j τ w' hj hJ => by simp [rho, upd, Spec.val, execOp, go_sem]) ?_
      refine RXl.exact (.pointer (some ⟨b, 4, none⟩)) rfl rfl rfl rfl rfl (fun j τ w' hj hJ => by simp [rho, upd, Spec.val, execOp, go_sem]) ?_
      refine RXl.exact (.pointer (some ⟨b, 4 + (glog x.toNat + glog y.toNat), none⟩)) rfl rfl rfl rfl rfl (fun j τ w' hj hJ => by have t1 : ((glog x.toNat : Int) + (glog y.toNat : Int)).toNat = glog x.toNat + glog y.toNat := (by omega); have t2 : (0 : Int) ≤ (glog x.toNat : Int) + (glog y.toNat : Int) := (by omega); have t3 : (glog x.toNat : Int) + (glog y.toNat : Int) < 510 := (by omega); simp [rho, upd, Spec.val, execOp, go_sem, t1, t2, t3]) ?_
      refine RXl.exact (bv (UInt8.ofNat (gexp (glog x.toNat + glog y.toNat)))) rfl rfl rfl rfl rfl (fun j τ w' hj hJ => by have c := fo_exp hJ (glog x.toNat + glog y.toNat) (by omega); simp [rho, upd, Spec.val, execOp, go_sem, c]) ?_
      refine RXl.exact (bv (UInt8.ofNat (gexp (glog x.toNat + glog y.toNat)))) rfl rfl rfl rfl rfl (fun _ _ _ _ _ => rfl) ?_
      refine RXl.nilx _ (Agr.upd _ _ (Agr.upd _ _ (Agr.upd _ _ (Agr.upd _ _ (Agr.upd _ _ (Agr.upd _ _ (Agr.upd _ _ (Agr.upd _ _ (Agr.upd _ _ (Agr.upd _ _ (Agr.upd _ _ (Agr.upd _ _ (Agr.upd _ _ (Agr.upd _ _ (Agr.upd _ _ (Agr.upd _ _ (Agr.upd _ _ (Agr.upd _ _ (Agr.upd _ _ (Agr.base _)))))))))))))))))))) fun w8 hJ => ?_
      obtain ⟨_, hJ⟩ := hJ
      simp only [Act.put, List.setIfInBounds_toArray, List.set_cons_succ, List.set_cons_zero]
      have S3 := Lib.hid (show St B w0 w8 (fo b true * R) from hJ)
      clear hJ S2
      go_wp2_with fail
      go_ret
      exact ⟨rfl, true, S3.out⟩
set_option maxRecDepth 100000 in
set_option maxHeartbeats 4000000 in
theorem inv_calls (b : Nat) (m : Bool) (x : UInt8) (w : World) (s : St B w0 w (fo b m * R)) :
    Calls Try.prog 40 #[.pointer (some ⟨b, 0, none⟩), bv x] w (RetF B w0 b R (.tuple #[bv (ginv x), .bool (gok x)])) := by
  have S := Lib.hid s
  clear s
  by_cases hx : x = 0
  · subst hx
    rw [show ginv 0 = 0 from rfl, show gok 0 = false from rfl]
    go_enter Try.func40, Try.ntmps40
    go_wp2_with fail
    go_ret2
    exact ⟨rfl, m, S.out⟩
  · have hz : ginv x = UInt8.ofNat (gexp (255 - glog x.toNat)) := by unfold ginv; rw [if_neg hx]
    rw [hz, show gok x = true by simp [gok, hx]]
    have hx1 : ((x.toNat : Int) == 0) = false := by simpa using u8_pos hx
    have g1 := glog_lt x.toNat x.toNat_lt
    have l1 : x.toNat < 256 := x.toNat_lt
    clear hx hz
    go_enter Try.func40, Try.ntmps40
    go_wp2_with fail
    refine (tables_calls b m w S.out).mono ?_
    rintro e w2 ⟨rfl, s2⟩
    have S2 := Lib.hid s2
    clear s2 S
    go_wp2_with fail
    refine wp_region_rx (fun _ w' => St B w0 w' (fo b true * R)) [] mixed (by kernel_rfl) (by kernel_rfl) S2.out.drew ?_
    refine RXl.exact (.pointer (some ⟨b, 0, none⟩)) rfl rfl rfl rfl rfl (fun _ _ _ _ _ => rfl) ?_
    refine RXl.exact (.pointer (some ⟨b, 0, none⟩)) rfl rfl rfl rfl rfl (fun _ _ _ _ _ => rfl) ?_
    refine RXl.exact (bv x) rfl rfl rfl rfl rfl (fun _ _ _ _ _ => rfl) ?_
    refine RXl.exact (.pointer (some ⟨b, 0, none⟩)) rfl rfl rfl rfl rfl (fun j τ w' hj hJ => by simp [rho, upd, Spec.val, execOp, go_sem]) ?_
    refine RXl.exact (.pointer (some ⟨b, 514, none⟩)) rfl rfl rfl rfl rfl (fun j τ w' hj hJ => by simp [rho, upd, Spec.val, execOp, go_sem]) ?_
    refine RXl.exact (.pointer (some ⟨b, 514 + x.toNat, none⟩)) rfl rfl rfl rfl rfl (fun j τ w' hj hJ => by simp [rho, upd, Spec.val, execOp, go_sem, bv]; intro hh; omega) ?_
    refine RXl.exact (.int .i64 (glog x.toNat : Nat)) rfl rfl rfl rfl rfl (fun j τ w' hj hJ => by have c := fo_log hJ x; simp [rho, upd, Spec.val, execOp, go_sem, c]) ?_
    refine RXl.exact (.int .i64 ((255 - glog x.toNat : Nat) : Int)) rfl rfl rfl rfl rfl (fun j τ w' hj hJ => by simp [rho, upd, Spec.val, execOp, go_sem]; rw [IntKind.wrap_i64]; omega) ?_
    refine RXl.exact (.pointer (some ⟨b, 0, none⟩)) rfl rfl rfl rfl rfl (fun j τ w' hj hJ => by simp [rho, upd, Spec.val, execOp, go_sem]) ?_
    refine RXl.exact (.pointer (some ⟨b, 4, none⟩)) rfl rfl rfl rfl rfl (fun j τ w' hj hJ => by simp [rho, upd, Spec.val, execOp, go_sem]) ?_
    refine RXl.exact (.pointer (some ⟨b, 4 + (255 - glog x.toNat), none⟩)) rfl rfl rfl rfl rfl (fun j τ w' hj hJ => by have t3 : ((255 - glog x.toNat : Nat) : Int) < 510 := (by omega); simp [rho, upd, Spec.val, execOp, go_sem, t3]) ?_
    refine RXl.exact (bv (UInt8.ofNat (gexp (255 - glog x.toNat)))) rfl rfl rfl rfl rfl (fun j τ w' hj hJ => by have c := fo_exp hJ (255 - glog x.toNat) (by omega); simp [rho, upd, Spec.val, execOp, go_sem, c]) ?_
    refine RXl.exact (bv (UInt8.ofNat (gexp (255 - glog x.toNat)))) rfl rfl rfl rfl rfl (fun _ _ _ _ _ => rfl) ?_
    refine RXl.exact ((Value.bool true)) rfl rfl rfl rfl rfl (fun _ _ _ _ _ => rfl) ?_
    refine RXl.nilx _ (Agr.upd _ _ (Agr.upd _ _ (Agr.upd _ _ (Agr.upd _ _ (Agr.upd _ _ (Agr.upd _ _ (Agr.upd _ _ (Agr.upd _ _ (Agr.upd _ _ (Agr.upd _ _ (Agr.upd _ _ (Agr.upd _ _ (Agr.upd _ _ (Agr.upd _ _ (Agr.base _))))))))))))))) fun w8 hJ => ?_
    obtain ⟨_, hJ⟩ := hJ
    simp only [Act.put, List.setIfInBounds_toArray, List.set_cons_succ, List.set_cons_zero]
    have S3 := Lib.hid (show St B w0 w8 (fo b true * R) from hJ)
    clear hJ S2
    go_wp2_with fail
    go_ret2
    exact ⟨rfl, true, S3.out⟩
set_option maxRecDepth 100000 in
set_option maxHeartbeats 4000000 in
theorem new_calls (w : World) (s : St B w0 w R) : Calls Try.prog 12 #[] w fun e w' => ∃ b, e = .returned (.pointer (some ⟨b, 0, none⟩)) ∧ St B w0 w' (fo b false * R) := by
  have S := Lib.hid s
  clear s
  go_enter Try.func12, Try.ntmps12
  go_wp2_with fail
  have s2 := S.out.alloc (.cells Try.zeroCells92 92)
  have e : Try.zeroCells92 = fc 0 0 0 (expL 0) (logL 0) := by rw [expL_zero]; kernel_rfl
  rw [e] at s2 ⊢
  have S2 := Lib.hid s2
  go_ret
  exact ⟨_, rfl, S2.out⟩
theorem tmod_255 (n : Int) : n.tmod 255 = if 0 ≤ n then n % 255 else -((-n) % 255) := by
  split
  · exact Int.tmod_eq_emod_of_nonneg ‹_›
  · have h : n = -(-n) := by omega
    rw [h, Int.neg_tmod, Int.tmod_eq_emod_of_nonneg (by omega), Int.neg_neg]
theorem pow_rem (n : Int) : (wrap64 (n.tmod 255 + 255)).tmod 255 = (((n % 255).toNat : Nat) : Int) := by
  have e : wrap64 (n.tmod 255 + 255) = n.tmod 255 + 255 := by
    rw [tmod_255]
    unfold wrap64
    split <;> omega
  rw [e, tmod_255 (n.tmod 255 + 255), tmod_255 n]
  split <;> split <;> omega
end
end Go.Proofs.Ytjnfhppjkadlpaa.Gf

namespace Go.Proofs.Ytjnfhppjkadlpaa.Gf
open Go Go.RowKit Go.Proofs.Ytjnfhppjkadlpaa Go.Proofs.Ytjnfhppjkadlpaa.Sp Go.Proofs.Ytjnfhppjkadlpaa.Reg
theorem glog_gexp' (n : Nat) : glog (gexp n) = n % 255 := by rw [← gexp_mod]; exact glog_gexp _ (Nat.mod_lt _ (by decide))
theorem gexp_cong {m n : Nat} (h : m % 255 = n % 255) : gexp m = gexp n := by rw [← gexp_mod m, h, gexp_mod]
theorem ofN (n : Nat) : (UInt8.ofNat (gexp n)).toNat = gexp n := by rw [UInt8.toNat_ofNat', Nat.mod_eq_of_lt (gexp_lt n)]
theorem ofN_ne (n : Nat) : UInt8.ofNat (gexp n) ≠ 0 := fun h => gexp_ne n (by rw [← ofN n, h]; rfl)
theorem u8ne {a : UInt8} (h : a ≠ 0) : a.toNat ≠ 0 := fun e => h (UInt8.toNat_inj.1 (by simpa using e))
theorem gexp_log {a : UInt8} (h : a ≠ 0) : gexp (glog a.toNat) = a.toNat := gexp_glog _ a.toNat_lt (u8ne h)
theorem gmul_ne {a b : UInt8} (ha : a ≠ 0) (hb : b ≠ 0) : gmul a b = UInt8.ofNat (gexp (glog a.toNat + glog b.toNat)) := by unfold gmul; rw [if_neg (by simp [ha, hb])]
theorem gmul_zero (a : UInt8) : gmul a 0 = 0 := by simp [gmul]
theorem zero_gmul (a : UInt8) : gmul 0 a = 0 := by simp [gmul]
theorem gmul_nz {a b : UInt8} (ha : a ≠ 0) (hb : b ≠ 0) : gmul a b ≠ 0 := by rw [gmul_ne ha hb]; exact ofN_ne _
theorem gmul_comm (a b : UInt8) : gmul a b = gmul b a := by
  by_cases ha : a = 0
  · subst ha; rw [zero_gmul, gmul_zero]
  by_cases hb : b = 0
  · subst hb; rw [zero_gmul, gmul_zero]
  rw [gmul_ne ha hb, gmul_ne hb ha, Nat.add_comm]
theorem gmul_assoc (a b c : UInt8) : gmul a (gmul b c) = gmul (gmul a b) c := by
  by_cases ha : a = 0
  · subst ha; simp [zero_gmul]
  by_cases hb : b = 0
  · subst hb; simp [zero_gmul, gmul_zero]
  by_cases hc : c = 0
  · subst hc; simp [gmul_zero]
  rw [gmul_ne ha (gmul_nz hb hc), gmul_ne (gmul_nz ha hb) hc, gmul_ne ha hb, gmul_ne hb hc, ofN, ofN, glog_gexp', glog_gexp']
  exact congrArg UInt8.ofNat (gexp_cong (by omega))
theorem gmul_one (a : UInt8) : gmul a 1 = a := by
  by_cases ha : a = 0
  · subst ha; rfl
  rw [gmul_ne ha (by decide), show glog (1 : UInt8).toNat = 0 by decide +kernel, Nat.add_zero, gexp_log ha]
  simp
theorem gmul_inv {a : UInt8} (ha : a ≠ 0) : gmul a (ginv a) = 1 := by
  have hi : ginv a = UInt8.ofNat (gexp (255 - glog a.toNat)) := by unfold ginv; rw [if_neg ha]
  have g1 := glog_lt a.toNat a.toNat_lt
  rw [hi, gmul_ne ha (ofN_ne _), ofN, glog_gexp', gexp_cong (n := 0) (by omega)]
  rfl
theorem gmul_div (a : UInt8) {b : UInt8} (hb : b ≠ 0) : gmul (gmul a b) (ginv b) = a := by rw [← gmul_assoc, gmul_inv hb, gmul_one]
theorem xt_xor : ∀ x, x < 256 → ∀ y, y < 256 → xt (x ^^^ y) = xt x ^^^ xt y := by decide +kernel
def xtn : Nat → Nat → Nat
  | 0, x => x
  | k + 1, x => xt (xtn k x)
theorem xtn_lt : ∀ (k x : Nat), x < 256 → xtn k x < 256
  | 0, _, h => h
  | k + 1, x, h => xt_lt _ (xtn_lt k x h)
theorem xtn_xor (k x y : Nat) (hx : x < 256) (hy : y < 256) : xtn k (x ^^^ y) = xtn k x ^^^ xtn k y := by
  induction k with
  | zero => rfl
  | succ k ih => show xt (xtn k (x ^^^ y)) = xt (xtn k x) ^^^ xt (xtn k y); rw [ih, xt_xor _ (xtn_lt k x hx) _ (xtn_lt k y hy)]
theorem xtn_zero (k : Nat) : xtn k 0 = 0 := by
  induction k with
  | zero => rfl
  | succ k ih => show xt (xtn k 0) = 0; rw [ih]; rfl
theorem xtn_gexp (k j : Nat) : xtn k (gexp j) = gexp (j + k) := by
  induction k with
  | zero => rfl
  | succ k ih => show xt (xtn k (gexp j)) = xt (gexp (j + k)); rw [ih]
theorem gmul_xtn {a : UInt8} (ha : a ≠ 0) (x : UInt8) : (gmul a x).toNat = xtn (glog a.toNat) x.toNat := by
  by_cases hx : x = 0
  · subst hx; rw [gmul_zero]; exact (xtn_zero _).symm
  · rw [gmul_ne ha hx, ofN, ← gexp_log hx, xtn_gexp, glog_gexp']
    exact gexp_cong (by omega)
theorem gmul_xor (a b c : UInt8) : gmul a (b ^^^ c) = gmul a b ^^^ gmul a c := by
  by_cases ha : a = 0
  · subst ha; simp [zero_gmul]
  apply UInt8.toNat_inj.1
  rw [gmul_xtn ha, UInt8.toNat_xor, UInt8.toNat_xor, gmul_xtn ha, gmul_xtn ha, xtn_xor _ _ _ b.toNat_lt c.toNat_lt]
end Go.Proofs.Ytjnfhppjkadlpaa.Gf

namespace Go.Proofs.Ytjnfhppjkadlpaa.Gf
open Go Go.RowKit Go.Proofs.Ytjnfhppjkadlpaa Go.Proofs.Ytjnfhppjkadlpaa.Sp Go.Proofs.Ytjnfhppjkadlpaa.Reg
theorem one_gmul (a : UInt8) : gmul 1 a = a := by rw [gmul_comm, gmul_one]
/-- A byte, so many times. -/
def gp (a : UInt8) : Nat → UInt8
  | 0 => 1
  | m + 1 => gmul (gp a m) a
theorem gp_add (a : UInt8) (m n : Nat) : gp a (m + n) = gmul (gp a m) (gp a n) := by
  induction n with
  | zero => exact (gmul_one _).symm
  | succ n ih => show gmul (gp a (m + n)) a = gmul (gp a m) (gmul (gp a n) a); rw [ih, gmul_assoc]
theorem gp_sq (a : UInt8) (n : Nat) : gp (gmul a a) n = gp a (2 * n) := by
  induction n with
  | zero => rfl
  | succ n ih =>
    show gmul (gp (gmul a a) n) (gmul a a) = gmul (gmul (gp a (2 * n)) a) a
    rw [ih, gmul_assoc]
theorem gp_ne {a : UInt8} (ha : a ≠ 0) (m : Nat) : gp a m = UInt8.ofNat (gexp (glog a.toNat * m)) := by
  induction m with
  | zero => rfl
  | succ m ih =>
    show gmul (gp a m) a = _
    rw [ih, gmul_ne (ofN_ne _) ha, ofN, glog_gexp', Nat.mul_succ]
    generalize glog a.toNat * m = z
    exact congrArg UInt8.ofNat (gexp_cong (by omega))
theorem gp_254 (a : UInt8) : gp a 254 = ginv a := by
  by_cases ha : a = 0
  · subst ha; exact gmul_zero _
  · rw [gp_ne ha]
    unfold ginv
    rw [if_neg ha]
    have g1 := glog_lt a.toNat a.toNat_lt
    exact congrArg UInt8.ofNat (gexp_cong (by omega))
theorem gpow_gp (a : UInt8) (n : Int) (h : n ≠ 0) (ha : a ≠ 0) : gpow a n = gp a (n % 255).toNat := by
  unfold gpow
  rw [if_neg h, if_neg ha, gp_ne ha, gexp_mod]
/-- The product with a beginning of the bits. -/
def rm (a b : UInt8) (i : Nat) : Nat := (gmul a (UInt8.ofNat (b.toNat % 2 ^ i))).toNat
theorem rm_zero (a b : UInt8) : rm a b 0 = 0 := by
  unfold rm
  rw [Nat.pow_zero, Nat.mod_one]
  show (gmul a 0).toNat = 0
  rw [gmul_zero]; rfl
theorem rm_8 (a b : UInt8) : rm a b 8 = (gmul a b).toNat := by
  unfold rm
  rw [Nat.mod_eq_of_lt (show b.toNat < 2 ^ 8 from b.toNat_lt)]
  simp
theorem glog_p2 : ∀ i, i < 8 → glog (UInt8.ofNat (2 ^ i)).toNat = i := by decide +kernel
theorem p2_ne : ∀ i, i < 8 → UInt8.ofNat (2 ^ i) ≠ 0 := by decide +kernel
theorem gmul_p2 (a : UInt8) {i : Nat} (hi : i < 8) : (gmul a (UInt8.ofNat (2 ^ i))).toNat = xtn i a.toNat := by
  rw [gmul_comm, gmul_xtn (p2_ne i hi), glog_p2 i hi]
theorem low_bits : ∀ i, i < 8 → ∀ b, b < 256 → UInt8.ofNat (b % 2 ^ (i + 1)) = if b / 2 ^ i % 2 = 1 then UInt8.ofNat (b % 2 ^ i) ^^^ UInt8.ofNat (2 ^ i) else UInt8.ofNat (b % 2 ^ i) := by decide +kernel
theorem rm_succ (a b : UInt8) {i : Nat} (hi : i < 8) : rm a b (i + 1) = if b.toNat / 2 ^ i % 2 = 1 then rm a b i ^^^ xtn i a.toNat else rm a b i := by
  unfold rm
  rw [low_bits i hi _ b.toNat_lt]
  split
  · rw [gmul_xor, UInt8.toNat_xor, gmul_p2 a hi]
  · rfl
/-- The sum of products, place by place. -/
def gdot : List UInt8 → List UInt8 → UInt8
  | a :: xs, b :: bs => gmul a b ^^^ gdot xs bs
  | _, _ => 0
theorem gdot_nil (a : List UInt8) : gdot a [] = 0 := by cases a <;> rfl
theorem gdot_comm : ∀ (a b : List UInt8), gdot a b = gdot b a
  | [], [] => rfl
  | [], _ :: _ => rfl
  | _ :: _, [] => rfl
  | a :: xs, b :: bs => by show gmul a b ^^^ gdot xs bs = gmul b a ^^^ gdot bs xs; rw [gmul_comm, gdot_comm xs bs]
theorem gdot_snoc (x y : UInt8) : ∀ (a b : List UInt8), a.length = b.length → gdot (a ++ [x]) (b ++ [y]) = gdot a b ^^^ gmul x y
  | [], [], _ => by show gmul x y ^^^ 0 = 0 ^^^ gmul x y; simp
  | a :: xs, b :: bs, h => by
    show gmul a b ^^^ gdot (xs ++ [x]) (bs ++ [y]) = gmul a b ^^^ gdot xs bs ^^^ gmul x y
    rw [gdot_snoc x y xs bs (by simpa using h), UInt8.xor_assoc]
theorem gdot_take : ∀ (a b : List UInt8) (n : Nat), min a.length b.length ≤ n → gdot (a.take n) (b.take n) = gdot a b
  | [], _, _, _ => by simp [gdot]
  | _ :: _, [], n, _ => by rw [List.take_nil, gdot_nil, gdot_nil]
  | a :: xs, b :: bs, 0, h => by simp at h
  | a :: xs, b :: bs, n + 1, h => by
    show gmul a b ^^^ gdot (xs.take n) (bs.take n) = _
    rw [gdot_take xs bs n (by simp at h; omega)]; rfl
theorem gdot_step (a b : List UInt8) (k : Nat) (ha : k < a.length) (hb : k < b.length) : gdot (a.take (k + 1)) (b.take (k + 1)) = gdot (a.take k) (b.take k) ^^^ gmul a[k] b[k] := by
  rw [List.take_succ_eq_append_getElem ha, List.take_succ_eq_append_getElem hb, gdot_snoc _ _ _ _ (by simp; omega)]
/-- Marks: what comes before the i-th. -/
def bl (f : Nat → Nat) (i : Nat) : List Bool := (List.range 256).map fun q => decide (f q < i)
theorem bl_len (f : Nat → Nat) (i : Nat) : (bl f i).length = 256 := by simp [bl]
theorem bl_get (f : Nat → Nat) (i q : Nat) (hq : q < 256) : (bl f i)[q]? = some (decide (f q < i)) := by simp [bl, hq]
theorem bl_zero (f : Nat → Nat) : bl f 0 = List.replicate 256 false := by
  refine List.eq_replicate_iff.2 ⟨bl_len f 0, fun b hb => ?_⟩
  obtain ⟨q, _, rfl⟩ := List.mem_map.1 hb
  simp
theorem bl_set (f : Nat → Nat) (i p : Nat) (hp : f p = i) (hu : ∀ q, q < 256 → f q = i → q = p) : (bl f i).set p true = bl f (i + 1) := by
  apply List.ext_getElem
  · simp [bl]
  · intro q h1 h2
    have hq : q < 256 := by simpa [bl] using h2
    rw [List.getElem_set]
    split
    · rename_i h; subst h; simp [bl, hp]
    · rename_i h
      have : f q ≠ i := fun e => h (hu q hq e).symm
      simp [bl]
      omega
/-- A row of marks. -/
abbrev bos (l : List Bool) : List Value := l.map Value.bool
theorem gpow_add {a : UInt8} (ha : a ≠ 0) (n k : Int) : gmul (gpow a n) (gpow a k) = gpow a (n + k) := by
  have e : ∀ n : Int, gpow a n = gp a (n % 255).toNat := fun n => by
    by_cases h : n = 0
    · subst h; rfl
    · exact gpow_gp a n h ha
  have per : ∀ i j : Nat, i % 255 = j % 255 → gp a i = gp a j := fun i j h => by
    rw [gp_ne ha, gp_ne ha]
    refine congrArg UInt8.ofNat (gexp_cong ?_)
    rw [Nat.mul_mod, h, ← Nat.mul_mod]
  rw [e, e, e, ← gp_add]
  exact per _ _ (by omega)
theorem gpow_255 {a : UInt8} (ha : a ≠ 0) : gpow a 255 = 1 := by rw [gpow_gp a 255 (by decide) ha]; rfl
theorem ginv_ginv {a : UInt8} (ha : a ≠ 0) : ginv a ≠ 0 ∧ ginv (ginv a) = a := by
  have h1 : ginv a ≠ 0 := fun h => by have := gmul_inv ha; rw [h, gmul_zero] at this; exact absurd this (by decide)
  refine ⟨h1, ?_⟩
  have h2 := gmul_inv h1
  have h3 := gmul_inv ha
  calc ginv (ginv a) = gmul 1 (ginv (ginv a)) := (one_gmul _).symm
    _ = gmul (gmul a (ginv a)) (ginv (ginv a)) := by rw [h3]
    _ = a := by rw [← gmul_assoc, h2, gmul_one]
theorem gpow_m1 {a : UInt8} (ha : a ≠ 0) : gpow a (-1) = ginv a := by rw [gpow_gp a _ (by decide) ha, ← gp_254]; rfl
theorem gpow_254 {a : UInt8} (ha : a ≠ 0) : gpow a 254 = ginv a := by rw [gpow_gp a _ (by decide) ha, ← gp_254]; rfl
theorem ginv_mul {a : UInt8} (ha : a ≠ 0) (b : UInt8) : gmul (ginv a) (gmul a b) = b := by rw [gmul_assoc, gmul_comm (ginv a), gmul_inv ha, one_gmul]
theorem mul_ginv {a : UInt8} (ha : a ≠ 0) (b : UInt8) : gmul a (gmul (ginv a) b) = b := by rw [gmul_assoc, gmul_inv ha, one_gmul]
/-- Of what byte a product comes. -/
def fi (a : UInt8) (q : Nat) : Nat := (gmul (ginv a) (UInt8.ofNat q)).toNat
theorem fi_mul {a : UInt8} (ha : a ≠ 0) (b : UInt8) : fi a (gmul a b).toNat = b.toNat := by
  unfold fi
  rw [UInt8.ofNat_toNat, ginv_mul ha]
theorem fi_inj {a : UInt8} (ha : a ≠ 0) (b : UInt8) (q : Nat) (hq : q < 256) (h : fi a q = b.toNat) : q = (gmul a b).toNat := by
  unfold fi at h
  rw [← UInt8.toNat_inj.1 h, mul_ginv ha, UInt8.toNat_ofNat', Nat.mod_eq_of_lt hq]
def ones (a : UInt8) (i : Nat) : Nat := if (ginv a).toNat < i then 1 else 0
/-- Of what power a byte comes. -/
def fp (q : Nat) : Nat := if q = 0 then 256 else glog q
theorem fp_exp {i : Nat} (hi : i < 255) : fp (gexp i) = i := by unfold fp; rw [if_neg (gexp_ne i), glog_gexp i hi]
theorem fp_inj {i q : Nat} (hi : i < 255) (hq : q < 256) (h : fp q = i) : q = gexp i := by
  unfold fp at h
  split at h
  · omega
  · rw [← h, gexp_glog q hq ‹_›]
theorem gexp_step (i : Nat) : gmul (UInt8.ofNat (gexp i)) 2 = UInt8.ofNat (gexp (i + 1)) := by
  rw [gmul_ne (ofN_ne _) (by decide), ofN, glog_gexp', show glog (2 : UInt8).toNat = 1 by decide +kernel]
  exact congrArg UInt8.ofNat (gexp_cong (by omega))
end Go.Proofs.Ytjnfhppjkadlpaa.Gf

namespace Go.Proofs.Ytjnfhppjkadlpaa.Gf
open Go Go.RowKit Go.Proofs.Ytjnfhppjkadlpaa Go.Proofs.Ytjnfhppjkadlpaa.Sp Go.Proofs.Ytjnfhppjkadlpaa.Reg
theorem rm_lt (a b : UInt8) (i : Nat) : rm a b i < 256 := UInt8.toNat_lt _
theorem bit_and (b : UInt8) (k : Nat) : bits .and .u8 ((b.toNat : Int) / 2 ^ k) 1 = ((b.toNat / 2 ^ k % 2 : Nat) : Int) := by
  have hb : b.toNat < 256 := b.toNat_lt
  have e : ((b.toNat : Int) / 2 ^ k) = ((b.toNat / 2 ^ k : Nat) : Int) := by push_cast; rfl
  rw [e]
  have hz : b.toNat / 2 ^ k < 256 := Nat.lt_of_le_of_lt (Nat.div_le_self _ _) hb
  generalize b.toNat / 2 ^ k = z at hz
  have e1 : (BitVec.ofInt 8 (z : Int)).toNat = z := by rw [BitVec.toNat_ofInt]; omega
  have h1 : (BitVec.ofInt 8 1).toNat = 2 ^ 1 - 1 := by decide
  show IntKind.u8.wrap ((BitVec.ofInt 8 (z : Int) &&& BitVec.ofInt 8 1).toNat : Nat) = _
  rw [BitVec.toNat_and, e1, h1, Nat.and_two_pow_sub_one_eq_mod, IntKind.wrap_u8]
  omega
theorem bit_true {b : UInt8} {k : Nat} (h : (bits .and .u8 ((b.toNat : Int) / 2 ^ k) 1 == 1) = true) : b.toNat / 2 ^ k % 2 = 1 := by
  rw [bit_and, beq_iff_eq] at h; omega
theorem bit_false {b : UInt8} {k : Nat} (h : (bits .and .u8 ((b.toNat : Int) / 2 ^ k) 1 == 1) = false) : ¬ b.toNat / 2 ^ k % 2 = 1 := by
  rw [bit_and, beq_eq_false_iff_ne] at h; omega
theorem xt_hi {x : Nat} (h : x < 256) (h2 : 255 < (x : Int) * 2) : bits .xor .i64 ((x : Int) * 2) 285 = (xt x : Nat) := by
  rw [show (x : Int) * 2 = ((2 * x : Nat) : Int) by omega, show (285 : Int) = ((285 : Nat) : Int) from rfl, bits_xor_i64 _ _ (by omega) (by decide)]
  unfold xt
  rw [if_pos (by omega)]
theorem xt_lo {x : Nat} (h2 : (x : Int) * 2 ≤ 255) : (x : Int) * 2 = (xt x : Nat) := by
  unfold xt
  rw [if_neg (by omega)]; omega
theorem xtn_s (k x : Nat) : xt (xtn k x) = xtn (k + 1) x := rfl
theorem rm_on {a b : UInt8} {k : Nat} (hk : k < 8) (h : (bits .and .u8 ((b.toNat : Int) / 2 ^ k) 1 == 1) = true) : bits .xor .i64 (rm a b k : Nat) (xtn k a.toNat : Nat) = (rm a b (k + 1) : Nat) := by
  have h1 := rm_lt a b k
  have h2 := xtn_lt k a.toNat a.toNat_lt
  rw [rm_succ a b hk, if_pos (bit_true h), bits_xor_i64 _ _ (by omega) (by omega)]
theorem rm_off {a b : UInt8} {k : Nat} (hk : k < 8) (h : (bits .and .u8 ((b.toNat : Int) / 2 ^ k) 1 == 1) = false) : rm a b k = rm a b (k + 1) := by
  rw [rm_succ a b hk, if_neg (bit_false h)]
theorem x_hi {x : Nat} (k : Nat) (h : xtn k x < 256) (h2 : 255 < (xtn k x : Int) * 2) : bits .xor .i64 ((xtn k x : Int) * 2) 285 = (xtn (k + 1) x : Nat) := xt_hi h h2
theorem x_lo {x : Nat} (k : Nat) (h2 : (xtn k x : Int) * 2 ≤ 255) : (xtn k x : Int) * 2 = (xtn (k + 1) x : Nat) := xt_lo h2
theorem vi64 {a b : Int} (h : a = b) : Value.int .i64 a = .int .i64 b := by rw [h]
set_option maxHeartbeats 1000000 in
theorem rmul_calls (a b : UInt8) (w : World) : Calls Try.prog 58 #[bv a, bv b] w fun e w' => e = .returned (bv (gmul a b)) ∧ w = w' := by
  have ha := a.toNat_lt
  have hb := b.toNat_lt
  go_enter Try.func58, Try.ntmps58
  go_wp2_with fail
  go_loop [5, 6, 7] (fun p x i => ∃ k : Nat, k ≤ 8 ∧ i = .int .i64 k ∧ p = .int .i64 (rm a b k : Nat) ∧ x = .int .i64 (xtn k a.toNat : Nat)) (fun _ _ i => 8 - (intOf i).toNat)
  case atStart =>
    refine ⟨0, by omega, rfl, ?_, rfl⟩
    rw [rm_zero]; rfl
  case round =>
    obtain ⟨k, hk, rfl, rfl, rfl⟩ := hrel
    have h1 := rm_lt a b k
    have h2 := xtn_lt k a.toNat ha
    by_cases hlt : k < 8
    · skip
      go_wp2_with fail
      all_goals rename_i hbit hov
      all_goals refine ⟨⟨k + 1, by omega, by go_num, ?_, ?_⟩, by simp [intOf]; omega⟩
      all_goals first
        | with_reducible exact vi64 (rm_on hlt hbit)
        | with_reducible exact vi64 (congrArg Nat.cast (rm_off hlt hbit))
        | with_reducible exact vi64 (x_hi k h2 hov)
        | with_reducible exact vi64 (x_lo k hov)
    · obtain rfl : k = 8 := by omega
      have h8 := Lib.hid (rm_8 a b)
      go_wp2_with fail
      go_ret
      refine ⟨?_, rfl⟩
      show Ending.returned (.int .u8 _) = Ending.returned (.int .u8 _)
      rw [h8.out]
set_option maxHeartbeats 1000000 in
theorem rinv_calls (a : UInt8) (w : World) : Calls Try.prog 57 #[bv a] w fun e w' => e = .returned (bv (ginv a)) ∧ w = w' := by
  go_enter Try.func57, Try.ntmps57
  go_wp2_with fail
  go_loop [0, 3, 4] (fun x p n => ∃ (k : Nat) (y q : UInt8), k ≤ 254 ∧ x = bv y ∧ p = bv q ∧ n = .int .i64 (k : Int) ∧ gmul q (gp y k) = ginv a) (fun _ _ n => (intOf n).toNat)
  case atStart => exact ⟨254, a, 1, by omega, rfl, rfl, rfl, by rw [one_gmul, gp_254]⟩
  case round =>
    obtain ⟨k, y, q, hk, rfl, rfl, rfl, hg⟩ := hrel
    have HG := Lib.hid hg
    clear hg
    by_cases hlt : 0 < k
    · by_cases hodd : (k : Int) % 2 = 1
      · have ho : ((k : Int) % 2 == 1) = true := by simpa using hodd
        have HO := Lib.hid hodd
        clear hodd
        go_wp2_with fail
        refine (rmul_calls q y _).mono ?_
        rintro e w1 ⟨rfl, rfl⟩
        go_wp2_with fail
        refine (rmul_calls y y _).mono ?_
        rintro e w1 ⟨rfl, rfl⟩
        go_wp2_with fail
        go_round
        case rel =>
          refine ⟨k / 2, gmul y y, gmul q y, by omega, rfl, rfl, by go_num, ?_⟩
          have h := HG.out
          have ho := HO.out
          rw [gp_sq, ← gmul_assoc, ← h]
          congr 1
          rw [show gp y k = gp y (1 + 2 * (k / 2)) by congr 1; omega, gp_add]
          show _ = gmul (gmul 1 y) _
          rw [one_gmul]
        case measure => simp [intOf]; omega
      · have ho : ((k : Int) % 2 == 1) = false := by simpa using hodd
        have HO := Lib.hid hodd
        clear hodd
        go_wp2_with fail
        refine (rmul_calls y y _).mono ?_
        rintro e w1 ⟨rfl, rfl⟩
        go_wp2_with fail
        go_round
        case rel =>
          refine ⟨k / 2, gmul y y, q, by omega, rfl, rfl, by go_num, ?_⟩
          have h := HG.out
          have ho := HO.out
          rw [gp_sq, ← h]
          congr 2
          omega
        case measure => simp [intOf]; omega
    · obtain rfl : k = 0 := by omega
      have HQ := Lib.hid (show q = ginv a by rw [← HG.out]; exact (gmul_one q).symm)
      clear HG
      go_wp2_with fail
      go_ret
      exact ⟨by rw [HQ.out]; rfl, rfl⟩
end Go.Proofs.Ytjnfhppjkadlpaa.Gf

namespace Go.Proofs.Ytjnfhppjkadlpaa.Gf
open Go Go.RowKit Go.Proofs.Ytjnfhppjkadlpaa Go.Proofs.Ytjnfhppjkadlpaa.Sp Go.Proofs.Ytjnfhppjkadlpaa.Reg Go.Proofs.Ytjnfhppjkadlpaa.Rd
/-- A field, its tables made or not. -/
def fx (b : Nat) : HP := exi fun m => fo b m
/-- A value, and all that is owned as it was. -/
def RetG (B : Nat) (w0 : World) (H : HP) (v : Value) (e : Ending) (w' : World) : Prop := e = .returned v ∧ St B w0 w' H
section
variable {B : Nat} {w0 : World} {R : HP}
theorem retF {b : Nat} {v : Value} {e : Ending} {w' : World} (h : RetF B w0 b R v e w') : RetG B w0 (fx b * R) v e w' := ⟨h.1, St.ex.2 h.2⟩
theorem newx (w : World) (s : St B w0 w R) : Calls Try.prog 12 #[] w fun e w' => ∃ b, e = .returned (.pointer (some ⟨b, 0, none⟩)) ∧ St B w0 w' (fx b * R) :=
  (new_calls w s).mono fun _ _ ⟨b, h1, h2⟩ => ⟨b, h1, St.ex.2 ⟨false, h2⟩⟩
theorem mulx (b : Nat) (x y : UInt8) (w : World) (s : St B w0 w (fx b * R)) : Calls Try.prog 65 #[.pointer (some ⟨b, 0, none⟩), bv x, bv y] w (RetG B w0 (fx b * R) (bv (gmul x y))) := by
  obtain ⟨m, s⟩ := St.ex.1 s
  exact (mul_calls b m x y w s).mono fun _ _ => retF
theorem invx (b : Nat) (x : UInt8) (w : World) (s : St B w0 w (fx b * R)) : Calls Try.prog 40 #[.pointer (some ⟨b, 0, none⟩), bv x] w (RetG B w0 (fx b * R) (.tuple #[bv (ginv x), .bool (gok x)])) := by
  obtain ⟨m, s⟩ := St.ex.1 s
  exact (inv_calls b m x w s).mono fun _ _ => retF
theorem bits_xor_u8' (a b : UInt8) : bits .xor .u8 (a.toNat : Int) (b.toNat : Int) = ((a ^^^ b).toNat : Int) := by
  have ha : a.toNat < 256 := a.toNat_lt
  have hb : b.toNat < 256 := b.toNat_lt
  have e1 : ∀ n : Nat, n < 256 → (BitVec.ofInt 8 (n : Int)).toNat = n := fun n h => by rw [BitVec.toNat_ofInt]; omega
  have hx : a.toNat ^^^ b.toNat < 2 ^ 8 := Nat.xor_lt_two_pow (by omega) (by omega)
  show IntKind.u8.wrap ((BitVec.ofInt 8 (a.toNat : Int) ^^^ BitVec.ofInt 8 (b.toNat : Int)).toNat : Nat) = _
  rw [BitVec.toNat_xor, e1 _ ha, e1 _ hb, UInt8.toNat_xor]
  rw [IntKind.wrap_u8]
  omega
end
end Go.Proofs.Ytjnfhppjkadlpaa.Gf
