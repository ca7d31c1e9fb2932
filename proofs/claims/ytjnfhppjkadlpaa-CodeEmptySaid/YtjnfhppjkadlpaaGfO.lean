/- sync.Once over a struct that this proof owns; sync/atomic's Int64. -/
import Derived.Test.YtjnfhppjkadlpaaRex
import Derived.Test.YtjnfhppjkadlpaaSlW
import Derived.Laws.LoneSync
import Derived.Laws.NewBlocks
import Derived.Defers
import Derived.Laws.Pointers
import Derived.RegionCalls
namespace Go.Proofs.Ytjnfhppjkadlpaa.GfO
open Go Go.RowKit Go.Proofs.Ytjnfhppjkadlpaa Go.Proofs.Ytjnfhppjkadlpaa.Sp Go.Proofs.Ytjnfhppjkadlpaa.Reg
theorem disable (w : World) : (callFunc 112 #[]).run Try.prog w = .ok (.value (.tuple #[])) w := run_call_mark0 Try.func112 (by kernel_rfl) (by kernel_rfl) (by kernel_rfl) .disable (by kernel_rfl) w
theorem enable (w : World) : (callFunc 114 #[]).run Try.prog w = .ok (.value (.tuple #[])) w := run_call_mark0 Try.func114 (by kernel_rfl) (by kernel_rfl) (by kernel_rfl) .enable (by kernel_rfl) w
theorem acquire (a : Addr) (w : World) : (callFunc 115 #[.pointer (some a)]).run Try.prog w = .ok (.value (.tuple #[])) w := run_call_marked Try.func115 (by kernel_rfl) (by kernel_rfl) (by kernel_rfl) .acquire (by kernel_rfl) a w
theorem releaseMerge (a : Addr) (w : World) : (callFunc 117 #[.pointer (some a)]).run Try.prog w = .ok (.value (.tuple #[])) w := run_call_marked Try.func117 (by kernel_rfl) (by kernel_rfl) (by kernel_rfl) .releaseMerge (by kernel_rfl) a w
theorem store_deferred (a : Addr) (x : Value) (u : FrameMode) (w : World) (hc : w.cell? a = some x) (hz : w.frozen? a = false) :
    CallsD Try.prog 106 #[.pointer (some a), .bool true] u w fun e u' w' => u' = u ∧ (e = .returned (.tuple #[]) ∧ w' = w.drew.setCell a (.int .u32 1)) := by
  have hc' : w.drew.cell? a = some x := by go_simp
  have hz' : w.drew.frozen? a = false := by go_simp
  have hst := run_call_store (P := Try.prog) Try.func110 (by kernel_rfl) (by kernel_rfl) (by kernel_rfl) (by kernel_rfl) (k := .u32) (y := 1) hc' hz'
  go_enter_d Try.func106, Try.ntmps106
  go_wp2
  go_region_calls
  all_goals (go_end0; exact ⟨rfl, rfl⟩)
set_option maxRecDepth 100000 in
set_option maxHeartbeats 1600000 in
theorem unlock_deferred (a : Addr) (u : FrameMode) (w : World) (hc : w.cell? a = some (.int .i32 1)) (hz : w.frozen? a = false) :
    CallsD Try.prog 105 #[.pointer (some a)] u w fun e u' w' => u' = u ∧ (e = .returned (.tuple #[]) ∧ w' = w.setCell a (.int .i32 0)) := by
  have hd := disable
  have he := enable
  have hr := releaseMerge
  have hadd := run_call_add (P := Try.prog) Try.func118 (by kernel_rfl) (by kernel_rfl) (by kernel_rfl) .i32 (by kernel_rfl) (y := -1) (s := 0) hc hz (by simp [go_sem]; rfl)
  have hcv := run_convert_to_unsafe (P := Try.prog) (src := 167) (dst := 171) Try.underlying167 Try.underlying171 (by kernel_rfl) hc
  go_enter_d Try.func105, Try.ntmps105
  go_wp2
  go_end0
  go_wp2
  go_end0
  exact ⟨rfl, rfl⟩
set_option maxRecDepth 100000 in
set_option maxHeartbeats 1600000 in
theorem lock_free (a : Addr) (w : World) (hc : w.cell? a = some (.int .i32 0)) (hz : w.frozen? a = false) :
    Calls Try.prog 104 #[.pointer (some a)] w fun e w' => e = .returned (.tuple #[]) ∧ w' = w.setCell a (.int .i32 1) := by
  have hd := disable
  have he := enable
  have ha := acquire
  have hcas := run_call_cas_hit (P := Try.prog) Try.func113 (by kernel_rfl) (by kernel_rfl) (by kernel_rfl) .i32 (by kernel_rfl) (y := 1) hc hz
  have hc' : (w.setCell a (.int .i32 1)).cell? a = some (.int .i32 1) := World.cell?_setCell_same w a _ hc
  have hcv := run_convert_to_unsafe (P := Try.prog) (src := 167) (dst := 171) Try.underlying167 Try.underlying171 (by kernel_rfl) hc'
  go_enter Try.func104, Try.ntmps104
  go_wp2
  first | go_end0 | (simp only [Exit.inBlock, Exit.then]; refine bodyPost_ret (results_none rfl _ _ _) rfl ?_) | refine bodyPost_ret (results_none rfl _ _ _) rfl ?_
  go_wp2
  go_end0
  exact ⟨rfl, rfl⟩
section
variable {B : Nat} {w0 : World} {R : HP}
set_option maxRecDepth 100000 in
set_option maxHeartbeats 1600000 in
/-- The slow road, nobody there: the lock is taken, the closure called, 'done' stored, the lock let go. -/
theorem slow_first (b : Nat) (t : TypeId) (c c2 : Array Value) (f : FuncId) (cap : Array Value) (x : Value) (R' : HP) (w : World) (h0 : c[0]? = some (.int .u32 0)) (h1 : c[1]? = some (.int .i32 0)) (g0 : c2[0]? = some x) (g1 : c2[1]? = some (.int .i32 1))
    (hf : ∀ w1 : World, (callFunc f cap).run Try.prog w1 = .ok (.enter f cap) w1)
    (hcl : ∀ w1, St B w0 w1 (pts b (.cells (c.setIfInBounds 1 (.int .i32 1)) t) * R) → Calls Try.prog f cap w1 fun e w2 => e = .returned (.tuple #[]) ∧ St B w0 w2 (pts b (.cells c2 t) * R'))
    (s : St B w0 w (pts b (.cells c t) * R)) :
    Calls Try.prog 94 #[.pointer (some ⟨b, 0, none⟩), .func (.func f) #[] cap] w fun e w' => e = .returned (.tuple #[]) ∧ St B w0 w' (pts b (.cells ((c2.setIfInBounds 0 (.int .u32 1)).setIfInBounds 1 (.int .i32 0)) t) * R') := by
  have a0 := (s.cell 0).trans h0
  have a1 := (s.cell 1).trans h1
  have z1 := s.free 1
  have hlk := lock_free ⟨b, 1, none⟩ w a1 z1
  have s1 := s.set 1 (.int .i32 1)
  have b0 : (w.setCell ⟨b, 1, none⟩ (.int .i32 1)).cell? ⟨b, 0, none⟩ = some (.int .u32 0) := (World.cell?_setCell_other _ ⟨b, 1, none⟩ ⟨b, 0, none⟩ _ (by simp)).trans a0
  have hl := run_call_load (P := Try.prog) Try.func103 (by kernel_rfl) (by kernel_rfl) (by kernel_rfl) .u32 (by kernel_rfl) (w := w.setCell ⟨b, 1, none⟩ (.int .i32 1)) (a := ⟨b, 0, none⟩) (x := 0) b0
  have hnot : ∀ (x : Bool) (w : World), (Op.unary .not (.bool x)).run Try.prog w = .ok (.bool (!x)) w := fun _ _ => rfl
  have hk := hcl _ s1
  have HK := Lib.hid hk
  clear s s1 a1 z1 hcl hk
  go_enter_defers Try.func94, Try.ntmps94
  go_wp2_with (first | (go_at_call 104; refine hlk.mono ?_; rintro e w' ⟨rfl, rfl⟩) | (go_at_call 93; go_in))
  refine HK.out.mono ?_
  rintro e w2 ⟨rfl, s2⟩
  have S2 := Lib.hid s2
  clear s2 HK hlk hl b0 a0
  go_wp2
  refine leaves_cons (f := 106) (args := #[.pointer (some ⟨b, 0, none⟩), .bool true]) (by simp) (by simp [go_sem]) ?_
  refine (store_deferred ⟨b, 0, none⟩ x .returning _ ((S2.out.cell 0).trans g0) (S2.out.free 0)).mono ?_
  rintro e u' w'' ⟨rfl, rfl, rfl⟩
  have s3 := S2.out.drew.set 0 (.int .u32 1)
  refine leaves_cons (f := 105) (args := #[.pointer (some ⟨b, 1, none⟩)]) (by simp [settle]) (by simp [go_sem]) ?_
  refine (unlock_deferred ⟨b, 1, none⟩ _ _ ((s3.cell 1).trans (by rw [Array.getElem?_setIfInBounds_ne (by decide)]; exact g1)) (s3.free 1)).mono ?_
  rintro e u' w'' ⟨rfl, rfl, rfl⟩
  have s4 := s3.set 1 (.int .i32 0)
  simp [Leaves, settle, results, Try.results94]
  exact s4
set_option maxRecDepth 100000 in
set_option maxHeartbeats 1600000 in
/-- '(*sync.Once).Do', not yet done. -/
theorem do_first (b : Nat) (t : TypeId) (c c2 : Array Value) (f : FuncId) (cap : Array Value) (x : Value) (R' : HP) (w : World) (h0 : c[0]? = some (.int .u32 0)) (h1 : c[1]? = some (.int .i32 0)) (g0 : c2[0]? = some x) (g1 : c2[1]? = some (.int .i32 1))
    (hf : ∀ w1 : World, (callFunc f cap).run Try.prog w1 = .ok (.enter f cap) w1)
    (hcl : ∀ w1, St B w0 w1 (pts b (.cells (c.setIfInBounds 1 (.int .i32 1)) t) * R) → Calls Try.prog f cap w1 fun e w2 => e = .returned (.tuple #[]) ∧ St B w0 w2 (pts b (.cells c2 t) * R'))
    (s : St B w0 w (pts b (.cells c t) * R)) :
    Calls Try.prog 74 #[.pointer (some ⟨b, 0, none⟩), .func (.func f) #[] cap] w fun e w' => e = .returned (.tuple #[]) ∧ St B w0 w' (pts b (.cells ((c2.setIfInBounds 0 (.int .u32 1)).setIfInBounds 1 (.int .i32 0)) t) * R') := by
  have hl := run_call_load (P := Try.prog) Try.func103 (by kernel_rfl) (by kernel_rfl) (by kernel_rfl) .u32 (by kernel_rfl) ((s.cell 0).trans h0)
  have hnot : ∀ (x : Bool) (w : World), (Op.unary .not (.bool x)).run Try.prog w = .ok (.bool (!x)) w := fun _ _ => rfl
  have HK := Lib.hid (slow_first b t c c2 f cap x R' w h0 h1 g0 g1 hf hcl s)
  clear s hcl hf
  go_enter Try.func74, Try.ntmps74
  go_wp2_with (go_at_call 93; go_in)
  refine HK.out.mono ?_
  rintro e w2 ⟨rfl, s2⟩
  have S2 := Lib.hid s2
  clear s2 HK
  go_wp2
  go_end0
  exact ⟨rfl, S2.out⟩
/-- Done already. -/
theorem do_done (a : Addr) (d : Int) (hd : ¬ d = 0) (fv : Value) (w : World) (h0 : w.cell? a = some (.int .u32 d)) :
    Calls Try.prog 74 #[.pointer (some a), fv] w fun e w' => e = .returned (.tuple #[]) ∧ w' = w := by
  have hl := run_call_load (P := Try.prog) Try.func103 (by kernel_rfl) (by kernel_rfl) (by kernel_rfl) .u32 (by kernel_rfl) h0
  have hnot : ∀ (x : Bool) (w : World), (Op.unary .not (.bool x)).run Try.prog w = .ok (.bool (!x)) w := fun _ _ => rfl
  have hd' : (d != 0) = true := by simp [hd]
  go_enter Try.func74, Try.ntmps74
  go_wp2
  go_end0
  exact ⟨rfl, rfl⟩
end
end Go.Proofs.Ytjnfhppjkadlpaa.GfO
