/- The disk, walked: New, Replace. No condition. -/
import Derived.Test.YteikpbangjpilaaDskX
namespace Go.Proofs.Yteikpbangjpilaa.DskW
open Go Go.RowKit Go.Proofs.Yteikpbangjpilaa Go.Proofs.Yteikpbangjpilaa.Sp Go.Proofs.Yteikpbangjpilaa.Reg Go.Proofs.Yteikpbangjpilaa.SlW Go.Proofs.Yteikpbangjpilaa.Fus Go.Proofs.Yteikpbangjpilaa.DskN Go.Proofs.Yteikpbangjpilaa.Rd

theorem tBB : SlT Try.prog 87 25 1 24 (.slice none 0 0) := ⟨Try.underlying87, info_parts (by kernel_rfl), rfl, by decide⟩
def blk0 : List UInt8 := List.replicate 96 0
theorem blk0_len : blk0.length = 96 := List.length_replicate
/-- A new disk. -/
def Dk.new (slots : Int) : Dk := ⟨List.replicate (min slots.toNat 64) blk0, [], false⟩
theorem arr26 (tm : Array Value) (h : tm.size = 26) : ∃ u0 u1 u2 u3 u4 u5 u6 u7 u8 u9 u10 u11 u12 u13 u14 u15 u16 u17 u18 u19 u20 u21 u22 u23 u24 u25, tm = #[u0, u1, u2, u3, u4, u5, u6, u7, u8, u9, u10, u11, u12, u13, u14, u15, u16, u17, u18, u19, u20, u21, u22, u23, u24, u25] := by
  obtain ⟨l0⟩ := tm
  have h0 : l0.length = 26 := h
  clear h
  obtain ⟨u0, l1, rfl, h1⟩ := take1 h0
  clear h0
  obtain ⟨u1, l2, rfl, h2⟩ := take1 h1
  clear h1
  obtain ⟨u2, l3, rfl, h3⟩ := take1 h2
  clear h2
  obtain ⟨u3, l4, rfl, h4⟩ := take1 h3
  clear h3
  obtain ⟨u4, l5, rfl, h5⟩ := take1 h4
  clear h4
  obtain ⟨u5, l6, rfl, h6⟩ := take1 h5
  clear h5
  obtain ⟨u6, l7, rfl, h7⟩ := take1 h6
  clear h6
  obtain ⟨u7, l8, rfl, h8⟩ := take1 h7
  clear h7
  obtain ⟨u8, l9, rfl, h9⟩ := take1 h8
  clear h8
  obtain ⟨u9, l10, rfl, h10⟩ := take1 h9
  clear h9
  obtain ⟨u10, l11, rfl, h11⟩ := take1 h10
  clear h10
  obtain ⟨u11, l12, rfl, h12⟩ := take1 h11
  clear h11
  obtain ⟨u12, l13, rfl, h13⟩ := take1 h12
  clear h12
  obtain ⟨u13, l14, rfl, h14⟩ := take1 h13
  clear h13
  obtain ⟨u14, l15, rfl, h15⟩ := take1 h14
  clear h14
  obtain ⟨u15, l16, rfl, h16⟩ := take1 h15
  clear h15
  obtain ⟨u16, l17, rfl, h17⟩ := take1 h16
  clear h16
  obtain ⟨u17, l18, rfl, h18⟩ := take1 h17
  clear h17
  obtain ⟨u18, l19, rfl, h19⟩ := take1 h18
  clear h18
  obtain ⟨u19, l20, rfl, h20⟩ := take1 h19
  clear h19
  obtain ⟨u20, l21, rfl, h21⟩ := take1 h20
  clear h20
  obtain ⟨u21, l22, rfl, h22⟩ := take1 h21
  clear h21
  obtain ⟨u22, l23, rfl, h23⟩ := take1 h22
  clear h22
  obtain ⟨u23, l24, rfl, h24⟩ := take1 h23
  clear h23
  obtain ⟨u24, l25, rfl, h25⟩ := take1 h24
  clear h24
  obtain ⟨u25, l26, rfl, h26⟩ := take1 h25
  clear h25
  obtain rfl : l26 = [] := List.eq_nil_of_length_eq_zero h26
  exact ⟨_, _, _, _, _, _, _, _, _, _, _, _, _, _, _, _, _, _, _, _, _, _, _, _, _, _, rfl⟩
section
variable {B : Nat} {w0 : World} {R : HP}
/-- Where a round of New stands. -/
def NI (B : Nat) (w0 : World) (bk : Nat) (fv vl : Value) (k : Nat) (C : List Value) (Y : HP) (j : Nat) (τ : Nat → Value) (w : World) : Prop :=
  match j with
  | 0 => St B w0 w (pts bk (.cells #[fv, vl, .slice none 0 0, .bool false] 90 (0, 0)) * (row 25 1 vl k C * Y))
  | 1 => ∃ g, τ 19 = .slice (some ⟨g, 0, none⟩) 96 96 ∧ St B w0 w (pts bk (.cells #[fv, vl, .slice none 0 0, .bool false] 90 (0, 0)) * (row 25 1 vl k C * (row 5 1 (.slice (some ⟨g, 0, none⟩) 96 96) 96 (bvs blk0) * Y)))
  | 2 => ∃ g g2, τ 20 = .slice (some ⟨g2, 0, none⟩) 1 1 ∧ St B w0 w (pts bk (.cells #[fv, vl, .slice none 0 0, .bool false] 90 (0, 0)) * (row 25 1 vl k C * (row 5 1 (.slice (some ⟨g, 0, none⟩) 96 96) 96 (bvs blk0) * (pts g2 (.cells #[.slice (some ⟨g, 0, none⟩) 96 96] 25 (0, 0)) * Y))))
  | 3 => ∃ g a2 c2, τ 21 = .slice a2 (k + 1) c2 ∧ St B w0 w (pts bk (.cells #[fv, vl, .slice none 0 0, .bool false] 90 (0, 0)) * (row 25 1 (.slice a2 (k + 1) c2) (k + 1) (C ++ [.slice (some ⟨g, 0, none⟩) 96 96]) * (row 5 1 (.slice (some ⟨g, 0, none⟩) 96 96) 96 (bvs blk0) * Y)))
  | _ => ∃ g a2 c2, St B w0 w (pts bk (.cells #[fv, .slice a2 (k + 1) c2, .slice none 0 0, .bool false] 90 (0, 0)) * (row 25 1 (.slice a2 (k + 1) c2) (k + 1) (C ++ [.slice (some ⟨g, 0, none⟩) 96 96]) * (row 5 1 (.slice (some ⟨g, 0, none⟩) 96 96) 96 (bvs blk0) * Y)))
theorem NI_cell {bk : Nat} {fv vl : Value} {k : Nat} {C : List Value} {Y : HP} {j : Nat} {τ : Nat → Value} {w : World} (hj : j ≤ 2) (h : NI B w0 bk fv vl k C Y j τ w) : w.cell? ⟨bk, 1, none⟩ = some vl := by
  match j, hj, h with
  | 0, _, h => exact St.cell h 1
  | 1, _, ⟨_, _, h⟩ => exact St.cell h 1
  | 2, _, ⟨_, _, _, h⟩ => exact St.cell h 1
set_option maxRecDepth 100000 in
set_option maxHeartbeats 4000000 in
theorem new_calls (slots : Int) (x : Option Addr) (w : World) (s : St B w0 w R) : Calls Try.prog 33 #[.int .i64 slots, .pointer x] w (NewS B w0 fun p => dk p (.pointer x) (Dk.new slots) * R) := by
  have m1 := fun w : World => run_max2 (P := Try.prog) w .i64 #[3, 3] 3 slots 0
  have m2 := fun w : World => run_min2 (P := Try.prog) w .i64 #[3, 3] 3 (max slots 0) 64
  obtain ⟨n, hn, hn64, hnn⟩ : ∃ n : Nat, min (max slots 0) 64 = (n : Int) ∧ n ≤ 64 ∧ n = min slots.toNat 64 := ⟨min slots.toNat 64, by omega, by omega, rfl⟩
  have hD : Dk.new slots = ⟨List.replicate n blk0, [], false⟩ := by unfold Dk.new; rw [hnn]
  rw [hD]
  clear hnn hD
  have S := Lib.hid s
  clear s
  go_enter Try.func33, Try.ntmps33
  go_wp2_with fail
  go_loopw [12] (fun i wr => ∃ (k : Nat) (vl : Value) (ls : List Value), k ≤ n ∧ i = .int .i64 k ∧ ls.length = k ∧ St B w0 wr (pts w.heap.size (.cells #[.pointer x, vl, .slice none 0 0, .bool false] 90 (0, 0)) * (row 25 1 vl k ls * (rows 5 ls (List.replicate k blk0) * R)))) (fun i _ => n - (intOf i).toNat)
  case atStart =>
    refine ⟨0, .slice none 0 0, [], Nat.zero_le _, rfl, rfl, ?_⟩
    have q := (S.out.alloc (.cells #[.pointer x, .slice none 0 0, .slice none 0 0, .bool false] 90)).rowNil 25 1
    show St B w0 _ (_ * (_ * (emp * R)))
    rw [emp_sep]
    exact q.eq (sep_left_comm _ _ _)
  case round =>
    obtain ⟨k, vl, ls, hk, rfl, hls, s1⟩ := hrel
    generalize w.heap.size = bk at *
    clear S
    obtain ⟨al, cl, rfl, -⟩ := (s1.eq (sep_left_comm _ _ _)).rowSlice
    by_cases hlt : k < n
    · have S1 := Lib.hid s1
      have HLS := Lib.hid hls
      clear s1 hls m1 m2
      go_wp2_with fail
      refine wp_region_rxi (NI B w0 bk (.pointer x) (.slice al k cl) k ls (rows 5 ls (List.replicate k blk0) * R)) [5, 6, 7, 10] mixed (by kernel_rfl) (by kernel_rfl) ?_ S1.out.drew ?_
      · intro j τ τ' w' h hI
        match j, h, hI with
        | 0, _, hI => exact hI
        | 1, h, ⟨g, e, s⟩ => exact ⟨g, (h 0 5 (by omega) rfl 19 rfl).symm.trans e, s⟩
        | 2, h, ⟨g, g2, e, s⟩ => exact ⟨g, g2, (h 1 6 (by omega) rfl 20 rfl).symm.trans e, s⟩
        | 3, h, ⟨g, a2, c2, e, s⟩ => exact ⟨g, a2, c2, (h 2 7 (by omega) rfl 21 rfl).symm.trans e, s⟩
        | _ + 4, _, hI => exact hI
      · refine RXl.exact (.pointer (some ⟨bk, 0, none⟩)) rfl rfl rfl rfl rfl (fun _ _ _ _ _ => rfl) ?_
        refine RXl.exact (.pointer (some ⟨bk, 0, none⟩)) rfl rfl rfl rfl rfl (fun _ _ _ _ _ => rfl) ?_
        refine RXl.exact (.pointer (some ⟨bk, 0, none⟩)) rfl rfl rfl rfl rfl (fun _ _ _ _ _ => by simp [rho, upd, Spec.val, execOp, go_sem]) ?_
        refine RXl.exact (.pointer (some ⟨bk, 1, none⟩)) rfl rfl rfl rfl rfl (fun _ _ _ _ _ => by simp [rho, upd, Spec.val, execOp, go_sem]) ?_
        refine RXl.exactB 2 7 rfl (by kernel_rfl) (.slice al k cl) rfl rfl rfl rfl rfl (fun j τ w' hj hI => by have c := NI_cell hj hI; simp [rho, upd, Spec.val, execOp, go_sem, c]) ?_
        refine RXl.effv 0 (.so fun v _ => ∃ g, v = .slice (some ⟨g, 0, none⟩) 96 96) (Free.so _) rfl rfl rfl rfl (fun a' w' hI hsz hag => ?_) ?_
        · have s := show St B w0 w' _ from hI
          obtain ⟨hrun, s2⟩ := run_makeSlice_st (P := Try.prog) tB .i64 .i64 96 96 (Nat.le_refl _) (by unfold maxLen; omega) (by omega) s
          have s3 := s2.rowMade (n := 96) rfl (Nat.le_refl _) (by unfold maxLen; omega)
          rw [bvs_zeros] at s3
          refine ⟨.slice (some ⟨w'.heap.size, 0, none⟩) 96 96, _, ?_, ⟨_, rfl⟩, w'.heap.size, slotsOf_same _ _ _ (by rw [hsz]; show 19 < 26; decide), s3.eq (by unfold blk0; ac_rfl)⟩
          have hrun' : (Instr.makeSlice 25 (.int .i64 96) (.int .i64 96)).run Try.prog w' = .ok (.slice (some ⟨w'.heap.size, 0, none⟩) 96 96) (w'.alloc (.cells (madeCells (Value.int .u8 0).cells 96) 5)) := hrun
          simp [execOp, hrun', Result.andThen, Act.eval]
        refine RXl.effv 1 (.so fun v _ => ∃ g, v = .slice (some ⟨g, 0, none⟩) 1 1) (Free.so _) rfl rfl rfl rfl (fun a' w' hI hsz hag => ?_) ?_
        · obtain ⟨g, e19, s⟩ := hI
          have e19' : a'.eval (.tmp 19) = .slice (some ⟨g, 0, none⟩) 96 96 := e19
          refine ⟨.slice (some ⟨w'.heap.size, 0, none⟩) 1 1, w'.alloc (.cells #[.slice (some ⟨g, 0, none⟩) 96 96] 25), ?_, ⟨_, rfl⟩, g, w'.heap.size, slotsOf_same _ _ _ (by rw [hsz]; show 20 < 26; decide), (s.alloc _).eq (by ac_rfl)⟩
          generalize a'.eval = ρ at e19' ⊢
          simp [execOp, go_sem, e19']
        refine RXl.effv 2 (.so fun v _ => ∃ a c, v = .slice a (k + 1) c) (Free.so _) rfl rfl rfl rfl (fun a' w' hI hsz hag => ?_) ?_
        · obtain ⟨g, g2, e20, s⟩ := hI
          have e18 := hag.ex 18 (.slice al k cl) rfl rfl rfl
          have e20' : a'.eval (.tmp 20) = .slice (some ⟨g2, 0, none⟩) 1 1 := e20
          have s2 := s.eq (Q := row 25 1 (.slice al k cl) k ls * (pts g2 (.cells #[.slice (some ⟨g, 0, none⟩) 96 96] 25 (0, 0)) * (pts bk (.cells #[.pointer x, .slice al k cl, .slice none 0 0, .bool false] 90 (0, 0)) * (row 5 1 (.slice (some ⟨g, 0, none⟩) 96 96) 96 (bvs blk0) * (rows 5 ls (List.replicate k blk0) * R))))) (by ac_rfl)
          have hrd : Rd w' (some ⟨g2, 0, none⟩) [.slice (some ⟨g, 0, none⟩) 96 96] := (s2.eq (sep_left_comm _ _ _)).rd 0 1
          obtain ⟨v', w3, hr, s3, -⟩ := run_append_st (P := Try.prog) tBB 87 s2 (some ⟨g2, 0, none⟩) 1 1 [.slice (some ⟨g, 0, none⟩) 96 96] hrd (fun e => by cases e) rfl (by simp [Value.oneCell']) (by unfold maxLen; omega) (by omega)
          obtain ⟨a2, c2, rfl, -⟩ := s3.rowSlice
          refine ⟨.slice a2 (k + 1) c2, w3, ?_, ⟨a2, c2, rfl⟩, g, a2, c2, slotsOf_same _ _ _ (by rw [hsz]; show 21 < 26; decide), ?_⟩
          · generalize a'.eval = ρ at e18 e20' ⊢
            simp [execOp, resolve, invoke, builtin, e18, e20', hr, Result.andThen]
          · exact (s3.eq (sep_left_comm _ _ _)).right.eq (by ac_rfl)
        refine RXl.exact (.pointer (some ⟨bk, 0, none⟩)) rfl rfl rfl rfl rfl (fun _ _ _ _ _ => by simp [rho, upd, Spec.val, execOp, go_sem]) ?_
        refine RXl.exact (.pointer (some ⟨bk, 1, none⟩)) rfl rfl rfl rfl rfl (fun _ _ _ _ _ => by simp [rho, upd, Spec.val, execOp, go_sem]) ?_
        refine RXl.effI 3 rfl rfl rfl rfl rfl (fun a' w' hI hsz hag => ?_) ?_
        · obtain ⟨g, a2, c2, e21, s⟩ := hI
          have e23 := hag.ex 23 (.pointer (some ⟨bk, 1, none⟩)) rfl rfl rfl
          have e21' : a'.eval (.tmp 21) = .slice a2 (k + 1) c2 := e21
          exact ⟨_, exec_store rfl e23 e21' rfl (by kernel_rfl) (s.cell 1) (s.free 1), g, a2, c2, s.set 1 _⟩
        refine RXl.nil fun a' w' hI hd hs hh => ?_
        obtain ⟨g, a2, c2, s2⟩ := hI
        have S2 := Lib.hid s2
        clear s2
        obtain ⟨tm, df⟩ := a'
        replace hd : df = [] := hd
        subst hd
        obtain ⟨u0, u1, u2, u3, u4, u5, u6, u7, u8, u9, u10, u11, u12, u13, u14, u15, u16, u17, u18, u19, u20, u21, u22, u23, u24, u25, rfl⟩ := arr26 tm hs
        obtain rfl : u0 = .int .i64 slots := hh 0 (by simp)
        obtain rfl : u1 = .pointer x := hh 1 (by simp)
        obtain rfl : u2 = undef := hh 2 (by simp)
        obtain rfl : u3 = undef := hh 3 (by simp)
        obtain rfl : u6 = .pointer x := hh 6 (by simp)
        obtain rfl : u7 = .agg #[.pointer x, .slice none 0 0, .slice none 0 0, .bool false] := hh 7 (by simp)
        obtain rfl : u8 = .pointer (some ⟨bk, 0, none⟩) := hh 8 (by simp)
        obtain rfl : u9 = .int .i64 slots := hh 9 (by simp)
        obtain rfl : u10 = .int .i64 (max slots 0) := hh 10 (by simp)
        obtain rfl : u25 = undef := hh 25 (by simp)
        obtain rfl : u4 = .pointer none := hh 4 (by simp)
        obtain rfl : u5 = .pointer (some ⟨bk, 0, none⟩) := hh 5 (by simp)
        obtain rfl : u11 = .int .i64 n := hh 11 (by simp)
        obtain rfl : u12 = .int .i64 k := hh 12 (by simp)
        clear hh hs
        go_wp2_with fail
        have q : St B w0 w' (pts bk (.cells #[.pointer x, .slice a2 (k + 1) c2, .slice none 0 0, .bool false] 90 (0, 0)) * (row 25 1 (.slice a2 (k + 1) c2) (k + 1) (ls ++ [.slice (some ⟨g, 0, none⟩) 96 96]) * (rows 5 (ls ++ [.slice (some ⟨g, 0, none⟩) 96 96]) (List.replicate (k + 1) blk0) * R))) := by
          rw [List.replicate_succ', rows_snoc _ _ _ _ _ (by rw [HLS.out]; simp), blk0_len]
          exact S2.out.eq (by ac_rfl)
        have Q9 := Lib.hid q
        clear q
        go_roundw
        case rel => first | exact ⟨k + 1, .slice a2 (k + 1) c2, ls ++ [.slice (some ⟨g, 0, none⟩) 96 96], by omega, by go_num, by rw [List.length_append, HLS.out]; rfl, Q9.out⟩ | ((repeat (refine Exists.intro _ ?_)); exact ⟨⟨k + 1, .slice a2 (k + 1) c2, ls ++ [.slice (some ⟨g, 0, none⟩) 96 96], by omega, by go_num, by rw [List.length_append, HLS.out]; rfl, Q9.out⟩, rfl⟩)
        case measure => simp [intOf]; omega
    · obtain rfl : k = n := by omega
      have S1 := Lib.hid s1
      clear s1 m1 m2
      go_wp2_with fail
      go_ret
      refine ⟨_, rfl, dk_mk (vl := .slice al k cl) (vp := .slice none 0 0) (ls := ls) (ps := []) (D := ⟨List.replicate k blk0, [], false⟩) ⟨by simp; omega, ?_, by simp, by simp, by simp⟩ (by simp [hls]) rfl ?_⟩
      · intro b hb; rw [List.eq_of_mem_replicate hb]; exact blk0_len
      · unfold dkO
        simp only [List.length_replicate]
        have q := S1.out.rowNil 92 2
        show St B w0 _ (_ * (_ * (_ * (row _ 2 _ 0 [] * (emp * R)))))
        rw [emp_sep]
        exact q.eq (by ac_rfl)
/-- Where Replace stands. -/
def PI (B : Nat) (w0 : World) (bk : Nat) (x : Option Addr) (vl vp : Value) (gone : Bool) (D' : Dk) (Y : HP) (j : Nat) (τ : Nat → Value) (w : World) : Prop :=
  match j with
  | 0 => St B w0 w (pts bk (.cells #[.pointer x, vl, vp, .bool gone] 90 (0, 0)) * Y)
  | 1 => ∃ nb al cl ap cp ls ps, τ 12 = .pointer (some ⟨nb, 0, none⟩) ∧ ls.length = D'.lasts.length ∧ ps.length = D'.pend.length ∧ St B w0 w (pts bk (.cells #[.pointer x, vl, vp, .bool gone] 90 (0, 0)) * dkO nb (.pointer x) (.slice al D'.lasts.length cl) (.slice ap D'.pend.length cp) ls ps D' Y)
  | 2 => ∃ nb al cl ap cp ls ps, τ 13 = .pointer (some ⟨nb, 0, none⟩) ∧ ls.length = D'.lasts.length ∧ ps.length = D'.pend.length ∧ St B w0 w (pts bk (.cells #[.pointer x, vl, vp, .bool gone] 90 (0, 0)) * dkO nb (.pointer x) (.slice al D'.lasts.length cl) (.slice ap D'.pend.length cp) ls ps D' Y)
  | 3 => ∃ nb al cl ap cp ls ps, τ 14 = .agg #[.pointer x, .slice al D'.lasts.length cl, .slice ap D'.pend.length cp, .bool D'.gone] ∧ ls.length = D'.lasts.length ∧ ps.length = D'.pend.length ∧ St B w0 w (pts bk (.cells #[.pointer x, vl, vp, .bool gone] 90 (0, 0)) * dkO nb (.pointer x) (.slice al D'.lasts.length cl) (.slice ap D'.pend.length cp) ls ps D' Y)
  | _ => ∃ nb al cl ap cp ls ps, ls.length = D'.lasts.length ∧ ps.length = D'.pend.length ∧ St B w0 w (pts bk (.cells #[.pointer x, .slice al D'.lasts.length cl, .slice ap D'.pend.length cp, .bool D'.gone] 90 (0, 0)) * dkO nb (.pointer x) (.slice al D'.lasts.length cl) (.slice ap D'.pend.length cp) ls ps D' Y)
theorem PI_cell {bk : Nat} {x : Option Addr} {vl vp : Value} {gone : Bool} {D' : Dk} {Y : HP} {j : Nat} {τ : Nat → Value} {w : World} (hj : j ≤ 0) (h : PI B w0 bk x vl vp gone D' Y j τ w) : w.cell? ⟨bk, 1, none⟩ = some vl ∧ w.cell? ⟨bk, 0, none⟩ = some (.pointer x) := by
  match j, hj, h with
  | 0, _, h => exact ⟨St.cell h 1, St.cell h 0⟩
theorem new_id (D : Dk) (hok : D.ok) : Dk.new (D.lasts.length : Int) = ⟨List.replicate D.lasts.length blk0, [], false⟩ := by
  unfold Dk.new
  have := hok.few
  rw [show min ((D.lasts.length : Int).toNat) 64 = D.lasts.length by omega]
set_option maxRecDepth 100000 in
set_option maxHeartbeats 4000000 in
theorem replace_calls (D : Dk) (p : Value) (x : Option Addr) (w : World) (s : St B w0 w (dk p (.pointer x) D * R)) : Calls Try.prog 47 #[p] w (RetS B w0 (dk p (.pointer x) ⟨List.replicate D.lasts.length blk0, [], false⟩ * R) (.tuple #[])) := by
  obtain ⟨bk, vl, vp, ls, ps, rfl, hok, h1, h2, s1⟩ := dk_open s
  obtain ⟨al, cl, rfl, -⟩ := (dkO_l s1).rowSlice
  have s2 : St B w0 w (pts bk (.cells #[.pointer x, .slice al D.lasts.length cl, vp, .bool D.gone] 90 (0, 0)) * R) := ((dkO_d s1).eq (Q := row 25 1 (.slice al D.lasts.length cl) D.lasts.length ls * (rows 5 ls D.lasts * (row 92 2 vp D.pend.length (flat D.pend ps) * (rows 5 ps (D.pend.map (·.2)) * (pts bk (.cells #[.pointer x, .slice al D.lasts.length cl, vp, .bool D.gone] 90 (0, 0)) * R))))) (by ac_rfl)).right.right.right.right
  have S2 := Lib.hid s2
  have HN := Lib.hid (new_id D hok)
  have HOK := Lib.hid hok
  obtain ⟨N, hN⟩ : ∃ N, N = (⟨List.replicate D.lasts.length blk0, [], false⟩ : Dk) := ⟨_, rfl⟩
  have HNN := Lib.hid hN
  rw [← hN]
  generalize hL : D.lasts.length = nl at *
  have HL := Lib.hid hL
  clear s s1 s2 hok h1 h2 hN hL
  go_enter Try.func47, Try.ntmps47
  go_wp2_with fail
  refine wp_region_rxi (PI B w0 bk x (.slice al nl cl) vp D.gone N R) [10, 11, 12, 14] mixed (by kernel_rfl) (by kernel_rfl) ?_ S2.out.drew ?_
  · intro j τ τ' w' h hI
    match j, h, hI with
    | 0, _, hI => exact hI
    | 1, h, ⟨nb, al, cl, ap, cp, ls, ps, e, s⟩ => exact ⟨nb, al, cl, ap, cp, ls, ps, (h 0 10 (by omega) rfl 12 rfl).symm.trans e, s⟩
    | 2, h, ⟨nb, al, cl, ap, cp, ls, ps, e, s⟩ => exact ⟨nb, al, cl, ap, cp, ls, ps, (h 1 11 (by omega) rfl 13 rfl).symm.trans e, s⟩
    | 3, h, ⟨nb, al, cl, ap, cp, ls, ps, e, s⟩ => exact ⟨nb, al, cl, ap, cp, ls, ps, (h 2 12 (by omega) rfl 14 rfl).symm.trans e, s⟩
    | _ + 4, _, hI => exact hI
  · refine RXl.exact (.pointer (some ⟨bk, 0, none⟩)) rfl rfl rfl rfl rfl (fun _ _ _ _ _ => rfl) ?_
    refine RXl.exact (.pointer (some ⟨bk, 0, none⟩)) rfl rfl rfl rfl rfl (fun _ _ _ _ _ => rfl) ?_
    refine RXl.exact (.pointer (some ⟨bk, 0, none⟩)) rfl rfl rfl rfl rfl (fun _ _ _ _ _ => by simp [rho, upd, Spec.val, execOp, go_sem]) ?_
    refine RXl.exact (.pointer (some ⟨bk, 1, none⟩)) rfl rfl rfl rfl rfl (fun _ _ _ _ _ => by simp [rho, upd, Spec.val, execOp, go_sem]) ?_
    refine RXl.exactB 0 10 rfl (by kernel_rfl) (.slice al nl cl) rfl rfl rfl rfl rfl (fun j τ w' hj hI => by have c := (PI_cell hj hI).1; simp [rho, upd, Spec.val, execOp, go_sem, c]) ?_
    refine RXl.exact (.int .i64 nl) rfl rfl rfl rfl rfl (fun _ _ _ _ _ => by simp [rho, upd, Spec.val, execOp, go_sem]) ?_
    refine RXl.exact (.pointer (some ⟨bk, 0, none⟩)) rfl rfl rfl rfl rfl (fun _ _ _ _ _ => rfl) ?_
    refine RXl.exact (.pointer (some ⟨bk, 0, none⟩)) rfl rfl rfl rfl rfl (fun _ _ _ _ _ => by simp [rho, upd, Spec.val, execOp, go_sem]) ?_
    refine RXl.exact (.pointer (some ⟨bk, 0, none⟩)) rfl rfl rfl rfl rfl (fun _ _ _ _ _ => by simp [rho, upd, Spec.val, execOp, go_sem]) ?_
    refine RXl.exactB 0 10 rfl (by kernel_rfl) (.pointer x) rfl rfl rfl rfl rfl (fun j τ w' hj hI => by have c := (PI_cell hj hI).2; simp [rho, upd, Spec.val, execOp, go_sem, c]) ?_
    refine RXl.calle 0 (.so fun v _ => ∃ nb, v = .pointer (some ⟨nb, 0, none⟩)) (Free.so _) 33 [.int .i64 nl, .pointer x] [.tmp 7, .tmp 11] _ rfl rfl rfl rfl rfl rfl (fun _ => rfl) (fun a' w' hI hsz => ?_) ?_
    · have s := show St B w0 w' _ from hI
      refine (new_calls nl x w' s).mono ?_
      rintro e w3 ⟨v, rfl, s3⟩
      rw [HN.out, ← HNN.out] at s3
      obtain ⟨nb, vl', vp', ls', ps', rfl, _, k1, k2, s4⟩ := dk_open s3
      obtain ⟨al', cl', rfl, -⟩ := (dkO_l s4).rowSlice
      obtain ⟨ap', cp', rfl, -⟩ := (dkO_p s4).rowSlice
      exact ⟨_, rfl, ⟨nb, rfl⟩, nb, al', cl', ap', cp', ls', ps', slotsOf_same _ _ _ (by rw [hsz]; show 12 < 16; decide), k1, k2, s4.eq (by unfold dkO; ac_rfl)⟩
    refine RXl.effv 1 (.so fun v _ => ∃ nb, v = .pointer (some ⟨nb, 0, none⟩)) (Free.so _) rfl rfl rfl rfl (fun a' w' hI hsz hag => ?_) ?_
    · obtain ⟨nb, al', cl', ap', cp', ls', ps', e12, k1, k2, s⟩ := hI
      have e12' : a'.eval (.tmp 12) = .pointer (some ⟨nb, 0, none⟩) := e12
      refine ⟨.pointer (some ⟨nb, 0, none⟩), w', ?_, ⟨nb, rfl⟩, nb, al', cl', ap', cp', ls', ps', slotsOf_same _ _ _ (by rw [hsz]; show 13 < 16; decide), k1, k2, s⟩
      generalize a'.eval = ρ at e12' ⊢
      simp [execOp, go_sem, e12']
    refine RXl.effv 2 (.so fun v _ => True) (Free.so _) rfl rfl rfl rfl (fun a' w' hI hsz hag => ?_) ?_
    · obtain ⟨nb, al', cl', ap', cp', ls', ps', e13, k1, k2, s⟩ := hI
      have e13' : a'.eval (.tmp 13) = .pointer (some ⟨nb, 0, none⟩) := e13
      have s' := dkO_d (s.eq (Q := dkO nb (.pointer x) (.slice al' N.lasts.length cl') (.slice ap' N.pend.length cp') ls' ps' N (pts bk (.cells #[.pointer x, .slice al nl cl, vp, .bool D.gone] 90 (0, 0)) * R)) (by unfold dkO; ac_rfl))
      have c0 := s'.cell 0
      have c1 := s'.cell 1
      have c2 := s'.cell 2
      have c3 := s'.cell 3
      simp at c0 c1 c2 c3
      refine ⟨.agg #[.pointer x, .slice al' N.lasts.length cl', .slice ap' N.pend.length cp', .bool N.gone], w', ?_, trivial, nb, al', cl', ap', cp', ls', ps', slotsOf_same _ _ _ (by rw [hsz]; show 14 < 16; decide), k1, k2, s⟩
      generalize a'.eval = ρ at e13' ⊢
      simp [execOp, go_sem, e13', c0, c1, c2, c3]
    refine RXl.exact (.pointer (some ⟨bk, 0, none⟩)) rfl rfl rfl rfl rfl (fun _ _ _ _ _ => by simp [rho, upd, Spec.val, execOp, go_sem]) ?_
    refine RXl.effI 3 rfl rfl rfl rfl rfl (fun a' w' hI hsz hag => ?_) ?_
    · obtain ⟨nb, al', cl', ap', cp', ls', ps', e14, k1, k2, s⟩ := hI
      have e15 := hag.ex 15 (.pointer (some ⟨bk, 0, none⟩)) rfl rfl rfl
      have e14' : a'.eval (.tmp 14) = .agg #[.pointer x, .slice al' N.lasts.length cl', .slice ap' N.pend.length cp', .bool N.gone] := e14
      have c0 := s.cell 0
      have c1 := s.cell 1
      have c2 := s.cell 2
      have c3 := s.cell 3
      have f0 := s.free 0
      have f1 := s.free 1
      have f2 := s.free 2
      have f3 := s.free 3
      simp at c0 c1 c2 c3
      refine ⟨(((w'.setCell ⟨bk, 0, none⟩ (.pointer x)).setCell ⟨bk, 1, none⟩ (.slice al' N.lasts.length cl')).setCell ⟨bk, 2, none⟩ (.slice ap' N.pend.length cp')).setCell ⟨bk, 3, none⟩ (.bool N.gone), ?_, nb, al', cl', ap', cp', ls', ps', k1, k2, (((s.set 0 _).set 1 _).set 2 _).set 3 _⟩
      generalize a'.eval = ρ at e14' e15 ⊢
      simp [execOp, go_sem, e14', e15, c0, c1, c2, c3, f0, f1, f2, f3]
    refine RXl.nil fun a' w' hI hd hs hh => ?_
    obtain ⟨nb, al', cl', ap', cp', ls', ps', k1, k2, s⟩ := hI
    obtain ⟨tm, df⟩ := a'
    have hd : df = [] := hd
    subst hd
    have SE := Lib.hid s
    clear hh s
    go_wp2_with fail
    go_end0
    refine ⟨rfl, dk_mk (vl := .slice al' N.lasts.length cl') (vp := .slice ap' N.pend.length cp') (ls := ls') (ps := ps') ?_ k1 k2 ?_⟩
    · rw [HNN.out]
      have hf := HOK.out.few
      rw [HL.out] at hf
      exact ⟨by simpa using hf, by intro b hb; rw [List.eq_of_mem_replicate hb]; exact blk0_len, by simp, by simp, by simp⟩
    · unfold dkO
      have q := SE.out
      unfold dkO at q
      exact (q.eq (Q := pts nb (.cells #[.pointer x, .slice al' N.lasts.length cl', .slice ap' N.pend.length cp', .bool N.gone] 90 (0, 0)) * (pts bk (.cells #[.pointer x, .slice al' N.lasts.length cl', .slice ap' N.pend.length cp', .bool N.gone] 90 (0, 0)) * (row 25 1 (.slice al' N.lasts.length cl') N.lasts.length ls' * (rows 5 ls' N.lasts * (row 92 2 (.slice ap' N.pend.length cp') N.pend.length (flat N.pend ps') * (rows 5 ps' (N.pend.map (·.2)) * R)))))) (by ac_rfl)).right
end
end Go.Proofs.Yteikpbangjpilaa.DskW
