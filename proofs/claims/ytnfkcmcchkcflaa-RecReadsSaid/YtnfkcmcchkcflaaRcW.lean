/- Package rec, walked: which records may be. No condition. -/
import Derived.Test.YtnfkcmcchkcflaaRcM
import Derived.Test.YtnfkcmcchkcflaaReg
import Derived.Test.YtnfkcmcchkcflaaRex
import Derived.Test.YtnfkcmcchkcflaaIs
import Derived.Test.YtnfkcmcchkcflaaSlW
import Derived.Laws.IdiomStrings
import Derived.Laws.Rows
import Derived.Deep.WholeRow
import Derived.Great.Walk
set_option linter.unusedSimpArgs false
set_option linter.unusedVariables false
namespace Go.Proofs.Ytnfkcmcchkcflaa.RcW
open Go Go.RowKit Go.Proofs.Ytnfkcmcchkcflaa Go.Proofs.Ytnfkcmcchkcflaa.Sp Go.Proofs.Ytnfkcmcchkcflaa.Reg Go.Proofs.Ytnfkcmcchkcflaa.RcM
/-- A Loc, a table, a shape and a record as values. -/
def lcC (l : Lc) : List Value := [.int .i64 l.d, .int .i64 l.s, .int .i64 l.id]
def tbC (t : Tb) : List Value := [.int .i64 t.hot, .int .i64 t.warm, .int .i64 t.gap, .int .i64 t.add, .int .i64 t.top, .int .i64 t.half]
def shC (x : Sh) : List Value := [.bool x.key, .bool x.sid, .bool x.colour, .bool x.table, .int .i64 x.n, .int .i64 x.sids, .int .i64 x.locs]
def rcC (r : Rc) (sv lv : Value) : List Value := [.int .i64 r.kind, str r.key, .int .i64 r.n, .int .i64 r.sid, sv, .int .i64 r.colour, lv, .int .i64 r.tab.hot, .int .i64 r.tab.warm, .int .i64 r.tab.gap, .int .i64 r.tab.add, .int .i64 r.tab.top, .int .i64 r.tab.half]
def lcV (l : Lc) : Value := .agg #[.int .i64 l.d, .int .i64 l.s, .int .i64 l.id]
def tbV (t : Tb) : Value := .agg #[.int .i64 t.hot, .int .i64 t.warm, .int .i64 t.gap, .int .i64 t.add, .int .i64 t.top, .int .i64 t.half]
def shV (x : Sh) : Value := .agg #[.bool x.key, .bool x.sid, .bool x.colour, .bool x.table, .int .i64 x.n, .int .i64 x.sids, .int .i64 x.locs]
def rcV (r : Rc) (sv lv : Value) : Value := .agg #[.int .i64 r.kind, str r.key, .int .i64 r.n, .int .i64 r.sid, sv, .int .i64 r.colour, lv, .int .i64 r.tab.hot, .int .i64 r.tab.warm, .int .i64 r.tab.gap, .int .i64 r.tab.add, .int .i64 r.tab.top, .int .i64 r.tab.half]
/-- A slice of Locs that can be read. -/
def LS (w : World) (v : Value) (ls : List Lc) : Prop :=
  ∃ a c, v = .slice a ls.length c ∧ ls.length ≤ c ∧ c ≤ maxLen ∧ (a = none → c = 0) ∧ Rd w a (ls.flatMap lcC)
theorem LS.below {w w' : World} {v : Value} {ls : List Lc} (h : LS w v ls) (hb : Below w.heap.size w w') : LS w' v ls := by
  obtain ⟨a, c, h1, h2, h3, h4, h5⟩ := h
  exact ⟨a, c, h1, h2, h3, h4, h5.below hb⟩
theorem lc_at (ls : List Lc) : ∀ (k : Nat) (h : k < ls.length) (j : Nat), j < 3 → (ls.flatMap lcC)[3 * k + j]? = (lcC ls[k])[j]? := by
  induction ls with
  | nil => intro k h; simp at h
  | cons a ls ih =>
    intro k h j hj
    have e : (a :: ls).flatMap lcC = lcC a ++ ls.flatMap lcC := by simp
    rw [e]
    cases k with
    | zero => rw [List.getElem?_append_left (by simp [lcC]; omega)]; simp
    | succ k =>
      rw [List.getElem?_append_right (by simp [lcC]; omega)]
      have := ih k (by simpa using h) j hj
      simp only [List.getElem_cons_succ]
      rw [← this]
      congr 1
      simp [lcC]; omega
theorem LS.cellsAt {w : World} {b off n c : Nat} {ls : List Lc} (h : LS w (.slice (some ⟨b, off, none⟩) n c) ls) (k : Nat) (hk : k < ls.length) :
    w.cell? ⟨b, off + k * 3, none⟩ = some (.int .i64 ls[k].d) ∧ w.cell? ⟨b, off + k * 3 + 1, none⟩ = some (.int .i64 ls[k].s) ∧ w.cell? ⟨b, off + k * 3 + 2, none⟩ = some (.int .i64 ls[k].id) := by
  obtain ⟨a, c', e, h2, h3, h4, h5⟩ := h
  cases e
  have hne : ls.flatMap lcC ≠ [] := by
    intro e
    have := lc_at ls k hk 0 (by omega)
    rw [e] at this
    simp [lcC] at this
  obtain ⟨b', off', e, hc⟩ := h5.at hne
  cases e
  have q := fun j hj => hc (3 * k + j) _ ((lc_at ls k hk j hj).trans (List.getElem?_eq_getElem (by simp [lcC]; omega)))
  have q0 := q 0 (by omega)
  have q1 := q 1 (by omega)
  have q2 := q 2 (by omega)
  simp only [lcC, List.getElem_cons_zero, List.getElem_cons_succ] at q0 q1 q2
  refine ⟨?_, ?_, ?_⟩
  · rw [← q0]; congr 2; omega
  · rw [← q1]; congr 2; omega
  · rw [← q2]; congr 2; omega
theorem LS.head {w : World} {a : Option Addr} {n c : Nat} {ls : List Lc} (h : LS w (.slice a n c) ls) (h0 : 0 < ls.length) : ∃ b off, a = some ⟨b, off, none⟩ := by
  obtain ⟨a', c', e, h2, h3, h4, h5⟩ := h
  cases e
  have hne : ls.flatMap lcC ≠ [] := by
    intro e
    have := lc_at ls 0 h0 0 (by omega)
    rw [e] at this
    simp [lcC] at this
  obtain ⟨b', off', e, -⟩ := h5.at hne
  exact ⟨b', off', e⟩
/-- What is returned, and that memory is only added to. -/
abbrev RetA (w : World) (v : Value) (e : Ending) (w' : World) : Prop := e = .returned v ∧ Add w w'
set_option maxHeartbeats 400000 in
theorem in_calls (n a b : Int) (w : World) : Calls Try.prog 19 #[.int .i64 n, .int .i64 a, .int .i64 b] w (RetA w (.bool (inn n a b))) := by
  unfold inn
  by_cases h1 : a ≤ n
  · by_cases h2 : n ≤ b
    · skip
      go_enter Try.func19, Try.ntmps19
      go_wp2_with fail
      go_ret
      exact ⟨by simp; omega, Add.refl w⟩
    · have h3 : b < n := by omega
      clear h2
      go_enter Try.func19, Try.ntmps19
      go_wp2_with fail
      go_ret
      exact ⟨by simp; omega, Add.refl w⟩
  · have h3 : n < a := by omega
    clear h1
    go_enter Try.func19, Try.ntmps19
    go_wp2_with fail
    go_ret
    exact ⟨by simp; omega, Add.refl w⟩
/-- []byte(s), read. -/
theorem bytes_of {P : Program} {src dst e : TypeId} (hs : P.underlying src = some .string) (hd : P.underlying dst = some (.slice e)) (he : P.underlying e = some (.int .u8)) (F : List UInt8) (hF : F.length ≤ maxLen) (w : World) :
    ∃ cap w', (convert src dst (str F)).run P w = .ok (.slice (some ⟨w.heap.size, 0, none⟩) F.length cap) w' ∧ Add w w' ∧ (∀ j (h : j < F.length), w'.cell? ⟨w.heap.size, j, none⟩ = some (bv F[j])) ∧ BS w' (.slice (some ⟨w.heap.size, 0, none⟩) F.length cap) F := by
  have hsz : (⟨F.toArray⟩ : ByteArray).size = F.length := by simp [ByteArray.size]
  have q := run_bytes_of_string (P := P) w src dst e ⟨F.toArray⟩ hs hd he
  rw [hsz] at q
  have g1 := grownCap_ge w F.length 0 e
  have g2 := grownCap_le_maxLen w F.length 0 e hF
  generalize grownCap w F.length 0 e = cap at q g1 g2
  have hC : (bytesRow ⟨F.toArray⟩ cap).size = cap := by simp [bytesRow, hsz]; omega
  rw [hC] at q
  have s := (St.init w).drew.alloc (.cells (bytesRow ⟨F.toArray⟩ cap) e (cap, cap + 1))
  have hc : ∀ j (h : j < F.length), (w.drew.alloc (.cells (bytesRow ⟨F.toArray⟩ cap) e (cap, cap + 1))).cell? ⟨w.heap.size, j, none⟩ = some (bv F[j]) := fun j hj => by
    have := s.cell j
    rw [show w.drew.heap.size = w.heap.size from rfl] at this
    rw [this]
    have e1 : (bytesRow ⟨F.toArray⟩ cap).toList.take F.length = bvs F := by simp [bytesRow, hsz, bvs, List.take_append_of_le_length]
    have e2 := congrArg (·[j]?) e1
    simp only [List.getElem?_take, hj, if_true] at e2
    rw [bvs_get hj] at e2
    simpa using e2
  refine ⟨cap, _, q, s.below, hc, _, _, rfl, g1, g2, (fun e => by cases e), .inr ⟨_, 0, rfl, fun j u hj => ?_⟩⟩
  have hjl : j < F.length := by have := (List.getElem?_eq_some_iff.1 hj).1; simpa using this
  rw [bvs_get hjl] at hj
  cases hj
  rw [Nat.zero_add]
  exact hc j hjl
theorem keyOk_no {k : List UInt8} {n : Nat} (hn : n < k.length) (h : chOk k[n] = false) : keyOk k = false := by
  rw [Bool.eq_false_iff]
  intro h2
  simp only [keyOk, Bool.and_eq_true, List.all_eq_true] at h2
  have := h2.2 _ (List.getElem_mem hn)
  rw [h] at this
  cases this
set_option maxRecDepth 100000 in
set_option maxHeartbeats 2000000 in
theorem keyok_calls (k : List UInt8) (hk : k.length ≤ maxLen) (w : World) : Calls Try.prog 44 #[str k] w (RetA w (.bool (keyOk k))) := by
  have hs1 : (⟨k.toArray⟩ : ByteArray).size = k.length := by simp [ByteArray.size]
  by_cases h0 : (k.length : Int) < 1
  · have e : keyOk k = false := by unfold keyOk; rw [show decide (1 ≤ k.length) = false from decide_eq_false (by omega)]; rfl
    rw [e]
    clear e
    go_enter Try.func44, Try.ntmps44
    go_wp2_with fail
    go_ret
    exact ⟨rfl, Add.refl w⟩
  · by_cases h1 : (16 : Int) < (k.length : Int)
    · have e : keyOk k = false := by unfold keyOk; rw [show decide (k.length ≤ 16) = false from decide_eq_false (by omega)]; simp
      rw [e]
      clear e
      go_enter Try.func44, Try.ntmps44
      go_wp2_with fail
      go_ret
      exact ⟨rfl, Add.refl w⟩
    · have hlo : 1 ≤ k.length := by omega
      have hhi : k.length ≤ 16 := by omega
      obtain ⟨cap, w2, hby, hadd, hc, -⟩ := bytes_of (P := Try.prog) Try.underlying9 Try.underlying32 Try.underlying5 k hk w
      have Hc := Lib.hid hc
      have Hadd := Lib.hid hadd
      clear hc hadd hk
      go_enter Try.func44, Try.ntmps44
      go_wp2_with fail
      go_loopw [16] (fun i wr => ∃ n : Nat, n ≤ k.length ∧ i = .int .i64 n ∧ (k.take n).all chOk = true ∧ wr = w2) (fun i _ => k.length - (intOf i).toNat)
      case atStart => exact ⟨0, Nat.zero_le _, rfl, rfl, rfl⟩
      case round =>
        obtain ⟨n, hn, rfl, hall, rfl⟩ := hrel
        clear hby
        by_cases hlt : n < k.length
        · have hltI : (n : Int) < (k.length : Int) := by omega
          have hcn := Hc.out n hlt
          have hno := fun h => keyOk_no (k := k) hlt h
          have htk : (k.take (n + 1)).all chOk = chOk k[n] := by rw [List.take_succ_eq_append_getElem hlt, List.all_append, hall]; simp
          generalize k[n] = c at *
          by_cases g1 : ((c.toNat : Nat) : Int) ≤ 32
          · have Hno := Lib.hid (hno (by unfold chOk; rw [show decide (32 < c.toNat) = false from decide_eq_false (by omega)]; rfl))
            clear hno htk hall
            go_wp2_with fail
            go_ret
            rw [Hno.out]
            exact ⟨rfl, Hadd.out⟩
          · by_cases g2 : (127 : Int) ≤ ((c.toNat : Nat) : Int)
            · have Hno := Lib.hid (hno (by unfold chOk; rw [show decide (c.toNat < 127) = false from decide_eq_false (by omega)]; simp))
              clear hno htk hall
              go_wp2_with fail
              go_ret
              rw [Hno.out]
              exact ⟨rfl, Hadd.out⟩
            · have Htk := Lib.hid (htk.trans (by unfold chOk; rw [decide_eq_true (show 32 < c.toNat by omega), decide_eq_true (show c.toNat < 127 by omega)]))
              clear hno htk hall
              go_wp2_with fail
              go_roundw
              case rel => exact ⟨n + 1, by omega, by go_num, Htk.out, trivial⟩
              case measure => simp [intOf]; omega
        · obtain rfl : n = k.length := by omega
          have Hk := Lib.hid (show keyOk k = true by
            rw [List.take_length] at hall
            simp only [keyOk, hall, decide_eq_true hlo, decide_eq_true hhi]; rfl)
          clear hall hlt hn
          have hnl : ¬ (k.length : Int) < (k.length : Int) := by omega
          go_wp2_with fail
          go_ret
          rw [Hk.out]
          exact ⟨rfl, Hadd.out⟩
theorem box_cells {w w1 : World} {c : Array Value} {t : TypeId} (a : Add (w.alloc (.cells c t (0, 0))) w1) : (∀ i, w1.cell? ⟨w.heap.size, i, none⟩ = c[i]?) ∧ Add w w1 := by
  have s := (((St.init w).alloc (.cells c t (0, 0))).keep a)
  exact ⟨fun i => s.cell i, s.below⟩
set_option maxRecDepth 100000 in
set_option maxHeartbeats 2000000 in
theorem locok_calls (l : Lc) (w : World) : Calls Try.prog 27 #[lcV l] w (RetA w (.bool (lcOk l))) := by
  unfold lcV
  have Q1 := Lib.hid fun w => in_calls l.d 0 23 w
  have Q2 := Lib.hid fun w => in_calls l.s 0 63 w
  have Q3 := Lib.hid fun w => in_calls l.id 1 2147483647 w
  have E := Lib.hid (show lcOk l = (inn l.d 0 23 && inn l.s 0 63 && inn l.id 1 2147483647) from rfl)
  go_enter Try.func27, Try.ntmps27
  go_wp2_with fail
  refine (Q1.out _).mono ?_
  rintro e w1 ⟨rfl, a1⟩
  obtain ⟨c1, A1⟩ := box_cells a1
  have c11 := c1 1
  simp at c11
  have H1 := Lib.hid a1
  have HA1 := Lib.hid A1
  clear a1 c1 A1
  cases h1 : inn l.d 0 23
  · skip
    go_wp2_with fail
    go_ret
    rw [E.out, h1]
    exact ⟨rfl, HA1.out⟩
  · skip
    go_wp2_with fail
    refine (Q2.out _).mono ?_
    rintro e w2 ⟨rfl, a2⟩
    obtain ⟨c2, A2⟩ := box_cells (H1.out.trans a2)
    have c22 := c2 2
    simp at c22
    have H2 := Lib.hid (H1.out.trans a2)
    have HA2 := Lib.hid A2
    clear a2 c2 A2 c11
    cases h2 : inn l.s 0 63
    · skip
      go_wp2_with fail
      go_ret
      rw [E.out, h1, h2]
      exact ⟨rfl, HA2.out⟩
    · skip
      go_wp2_with fail
      refine (Q3.out _).mono ?_
      rintro e w3 ⟨rfl, a3⟩
      have HA3 := Lib.hid (box_cells (H2.out.trans a3)).2
      clear a3 c22
      go_wp2_with fail
      go_ret
      rw [E.out, h1, h2]
      exact ⟨rfl, HA3.out⟩
theorem tI : SlT Try.prog 22 3 1 8 (.int .i64 0) := ⟨Try.underlying22, info_parts (by kernel_rfl), rfl, by decide⟩
set_option maxRecDepth 100000 in
set_option maxHeartbeats 2000000 in
/-- A table's numbers, in a row of the call's own. -/
theorem numbers_calls {B : Nat} {w0 : World} {R : HP} (t : Tb) (w : World) (s : St B w0 w R) :
    Calls Try.prog 29 #[tbV t] w fun e w' => ∃ g, e = .returned (.slice (some ⟨g, 0, none⟩) 6 6) ∧ St B w0 w' (row 3 1 (.slice (some ⟨g, 0, none⟩) 6 6) 6 (ivs t.list) * R) := by
  unfold tbV
  have S := Lib.hid s
  clear s
  go_enter Try.func29, Try.ntmps29
  go_wp2_with fail
  go_ret
  refine ⟨_, rfl, ?_⟩
  have s := (S.out.alloc (.cells #[.int .i64 t.hot, .int .i64 t.warm, .int .i64 t.gap, .int .i64 t.add, .int .i64 t.top, .int .i64 t.half] 25)).alloc (.cells #[.int .i64 t.hot, .int .i64 t.warm, .int .i64 t.gap, .int .i64 t.add, .int .i64 t.top, .int .i64 t.half] 3)
  have e : (w.alloc (.cells #[.int .i64 t.hot, .int .i64 t.warm, .int .i64 t.gap, .int .i64 t.add, .int .i64 t.top, .int .i64 t.half] 25)).heap.size = w.heap.size + 1 := by simp
  rw [e] at s
  exact ((s.eq (sep_left_comm _ _ _)).right).rowMk (n := 6) (cap := 6) (size := 1) (by decide) (by decide) (by simp) rfl
/-- All shapes, one behind the other. -/
def shapesA : Array Value := ((List.range 9).flatMap fun k => shC (shp k)).toArray
def shA (k : Nat) : Array Value := (shC (shp k)).toArray
def zerosA : Array Value := ((List.range 9).flatMap fun _ => shC (shp 0)).toArray
set_option maxRecDepth 100000 in
set_option maxHeartbeats 2000000 in
theorem shapes_calls (w : World) : Calls Try.prog 20 #[] w (RetA w (.agg shapesA)) := by
  go_enter Try.func20, Try.ntmps20
  refine wp_seq (wp_region_lit ?_)
  refine Great.wpList_allocTo rfl _ rfl (.pointer (some ⟨w.heap.size, 0, none⟩)) (.cells zerosA 52) (by kernel_rfl) (wpList_nil ?_)
  refine wp_seq (wp_region_lit ?_)
  refine Great.wpList_readTo rfl _ rfl (.agg (shA 1)) (by kernel_rfl) ?_
  refine Great.wpList_readTo rfl _ rfl (.agg (shA 2)) (by kernel_rfl) ?_
  refine Great.wpList_readTo rfl _ rfl (.agg (shA 3)) (by kernel_rfl) ?_
  refine Great.wpList_readTo rfl _ rfl (.agg (shA 4)) (by kernel_rfl) ?_
  refine Great.wpList_readTo rfl _ rfl (.agg (shA 5)) (by kernel_rfl) ?_
  refine Great.wpList_readTo rfl _ rfl (.agg (shA 6)) (by kernel_rfl) ?_
  refine Great.wpList_readTo rfl _ rfl (.agg (shA 7)) (by kernel_rfl) ?_
  refine Great.wpList_readTo rfl _ rfl (.agg (shA 8)) (by kernel_rfl) ?_
  refine Great.wpList_readTo rfl _ rfl (.agg shapesA) (by kernel_rfl) ?_
  refine wpList_store_row rfl 52 (.tmp 0) (.tmp 9) rfl w.heap.size shapesA (by kernel_rfl) (by kernel_rfl) 52 zerosA (heap_alloc_last w _) (by kernel_rfl) (by kernel_rfl) (by kernel_rfl) (wpList_nil ?_)
  rw [World.setRow_alloc_new]
  refine wp_ret ?_
  refine bodyPost_ret (v := .agg shapesA) (results_cell_row rfl _ _ w.heap.size _ shapesA (0, 0) _ (by kernel_rfl) (heap_alloc_last _ _) Try.underlying52 rfl (by kernel_rfl)) (by kernel_rfl) ⟨rfl, Add.alloc _ _⟩

/-! ### a list of which one may not be -/
set_option maxRecDepth 100000 in
set_option maxHeartbeats 2000000 in
theorem tab1_calls (n : Int) (w : World) : Calls Try.prog 50 #[.int .i64 n] w (RetA w (.bool (!inn n 0 1000000))) := by
  have Q := Lib.hid (in_calls n 0 1000000 w)
  go_enter Try.func50, Try.ntmps50
  go_wp2_with fail
  refine Q.out.mono ?_
  rintro e w1 ⟨rfl, a1⟩
  have A1 := Lib.hid a1
  clear a1
  clear Q
  cases h : inn n 0 1000000
  all_goals
    go_wp2_with fail
    go_ret
    exact ⟨by rw [h]; rfl, A1.out⟩
set_option maxRecDepth 100000 in
set_option maxHeartbeats 2000000 in
theorem ok1_calls (n lo : Int) (g : Nat) (w : World) (h : w.cell? ⟨g, 5, none⟩ = some (.int .i64 lo)) : Calls Try.prog 23 #[.int .i64 n, .pointer (some ⟨g, 0, none⟩)] w (RetA w (.bool (!inn n lo 2147483647))) := by
  have Q := Lib.hid (in_calls n lo 2147483647 w)
  go_enter Try.func23, Try.ntmps23
  go_wp2_with fail
  refine Q.out.mono ?_
  rintro e w1 ⟨rfl, a1⟩
  have A1 := Lib.hid a1
  clear a1
  clear Q
  cases h : inn n lo 2147483647
  all_goals
    go_wp2_with fail
    go_ret
    exact ⟨by rw [h]; rfl, A1.out⟩
set_option maxRecDepth 100000 in
set_option maxHeartbeats 2000000 in
theorem ok2_calls (l : Lc) (w : World) : Calls Try.prog 26 #[lcV l] w (RetA w (.bool (!lcOk l))) := by
  have Q := Lib.hid fun w => locok_calls l w
  unfold lcV at Q ⊢
  go_enter Try.func26, Try.ntmps26
  go_wp2_with fail
  refine (Q.out _).mono ?_
  rintro e w1 ⟨rfl, a1⟩
  have A1 := Lib.hid (box_cells a1).2
  clear Q a1
  cases h : lcOk l
  all_goals
    go_wp2_with fail
    go_ret
    exact ⟨by rw [h]; rfl, A1.out⟩
theorem any_take {α : Type} (p : α → Bool) (l : List α) (n : Nat) (hn : n < l.length) (h : (l.take n).any p = false) (h2 : p l[n] = false) : (l.take (n + 1)).any p = false := by
  rw [List.take_succ_eq_append_getElem hn, List.any_append, h]; simp [h2]
theorem any_at {α : Type} (p : α → Bool) (l : List α) (n : Nat) (hn : n < l.length) (h2 : p l[n] = true) : l.any p = true := List.any_eq_true.2 ⟨_, List.getElem_mem hn, h2⟩
/-- Whether it was found. -/
def Found (w : World) (b : Bool) (e : Ending) (w' : World) : Prop := ∃ i : Int, e = .returned (.int .i64 i) ∧ decide (0 ≤ i) = b ∧ Add w w'
set_option maxRecDepth 100000 in
set_option maxHeartbeats 2000000 in
theorem idxT_calls (p : Int → Bool) (v : Value) (ns : List Int) (w : World) (h : IS w v ns)
    (hf : ∀ x ∈ ns, ∀ w', Add w w' → Calls Try.prog 50 #[.int .i64 x] w' (RetA w' (.bool (p x)))) :
    Calls Try.prog 46 #[v, .func (.func 50) #[] #[]] w (Found w (ns.any p)) := by
  obtain ⟨A, c, e, h1, h2, h3, h4⟩ := id h
  subst e
  have H := Lib.hid h
  have HF := Lib.hid hf
  unfold maxLen at h2
  clear h hf h3 h4
  go_enter Try.func46, Try.ntmps46
  go_wp2_with fail
  go_loopw [8] (fun i wr => ∃ n : Nat, n ≤ ns.length ∧ i = .int .i64 n ∧ (ns.take n).any p = false ∧ Add w wr) (fun i _ => ns.length - (intOf i).toNat)
  case atStart => exact ⟨0, Nat.zero_le _, rfl, rfl, Add.refl w⟩
  case round =>
    obtain ⟨n, hn, rfl, hany, hadd⟩ := hrel
    by_cases hlt : n < ns.length
    · obtain ⟨b, off, rfl⟩ := H.out.head (by omega)
      have hc := (H.out.below hadd).cellAt n hlt
      have q := HF.out _ (List.getElem_mem hlt) _ hadd
      have hst := any_take p ns n hlt hany
      have hyes := any_at p ns n hlt
      generalize ns[n] = x at *
      have hltI : (n : Int) < (ns.length : Int) := by omega
      have Hadd := Lib.hid hadd
      have Q := Lib.hid q
      have Hst := Lib.hid hst
      have Hyes := Lib.hid hyes
      have Hany := Lib.hid hany
      clear hadd q hst hyes hany
      clear H HF
      go_wp2_with fail
      refine Q.out.mono ?_
      rintro e w1 ⟨rfl, a1⟩
      have A1 := Lib.hid (Hadd.out.trans a1)
      clear Q a1 Hadd
      cases hp : p x
      · have HS := Lib.hid (Hst.out hp)
        clear hp Hst Hyes
        go_wp2_with fail
        go_roundw
        case rel => exact ⟨n + 1, by omega, by go_num, HS.out, A1.out⟩
        case measure => simp [intOf]; omega
      · have HS := Lib.hid (Hyes.out hp)
        clear hp Hst Hyes
        go_wp2_with fail
        go_ret
        exact ⟨n, rfl, by rw [HS.out]; exact decide_eq_true (by omega), A1.out⟩
    · obtain rfl : n = ns.length := by omega
      have HS := Lib.hid (show ns.any p = false by rw [← hany, List.take_length])
      have Hadd := Lib.hid hadd
      clear hadd
      clear hany hn hlt H HF
      have hnl : ¬ (ns.length : Int) < (ns.length : Int) := by omega
      go_wp2_with fail
      go_ret
      exact ⟨-1, rfl, by rw [HS.out]; rfl, Hadd.out⟩
set_option maxRecDepth 100000 in
set_option maxHeartbeats 2000000 in
theorem idxO_calls (g : Nat) (p : Int → Bool) (v : Value) (ns : List Int) (w : World) (h : IS w v ns)
    (hf : ∀ x ∈ ns, ∀ w', Add w w' → Calls Try.prog 23 #[.int .i64 x, .pointer (some ⟨g, 0, none⟩)] w' (RetA w' (.bool (p x)))) :
    Calls Try.prog 46 #[v, .func (.func 23) #[] #[.pointer (some ⟨g, 0, none⟩)]] w (Found w (ns.any p)) := by
  obtain ⟨A, c, e, h1, h2, h3, h4⟩ := id h
  subst e
  have H := Lib.hid h
  have HF := Lib.hid hf
  unfold maxLen at h2
  clear h hf h3 h4
  go_enter Try.func46, Try.ntmps46
  go_wp2_with fail
  go_loopw [8] (fun i wr => ∃ n : Nat, n ≤ ns.length ∧ i = .int .i64 n ∧ (ns.take n).any p = false ∧ Add w wr) (fun i _ => ns.length - (intOf i).toNat)
  case atStart => exact ⟨0, Nat.zero_le _, rfl, rfl, Add.refl w⟩
  case round =>
    obtain ⟨n, hn, rfl, hany, hadd⟩ := hrel
    by_cases hlt : n < ns.length
    · obtain ⟨b, off, rfl⟩ := H.out.head (by omega)
      have hc := (H.out.below hadd).cellAt n hlt
      have q := HF.out _ (List.getElem_mem hlt) _ hadd
      have hst := any_take p ns n hlt hany
      have hyes := any_at p ns n hlt
      generalize ns[n] = x at *
      have hltI : (n : Int) < (ns.length : Int) := by omega
      have Hadd := Lib.hid hadd
      have Q := Lib.hid q
      have Hst := Lib.hid hst
      have Hyes := Lib.hid hyes
      have Hany := Lib.hid hany
      clear hadd q hst hyes hany
      clear H HF
      go_wp2_with fail
      refine Q.out.mono ?_
      rintro e w1 ⟨rfl, a1⟩
      have A1 := Lib.hid (Hadd.out.trans a1)
      clear Q a1 Hadd
      cases hp : p x
      · have HS := Lib.hid (Hst.out hp)
        clear hp Hst Hyes
        go_wp2_with fail
        go_roundw
        case rel => exact ⟨n + 1, by omega, by go_num, HS.out, A1.out⟩
        case measure => simp [intOf]; omega
      · have HS := Lib.hid (Hyes.out hp)
        clear hp Hst Hyes
        go_wp2_with fail
        go_ret
        exact ⟨n, rfl, by rw [HS.out]; exact decide_eq_true (by omega), A1.out⟩
    · obtain rfl : n = ns.length := by omega
      have HS := Lib.hid (show ns.any p = false by rw [← hany, List.take_length])
      have Hadd := Lib.hid hadd
      clear hadd
      clear hany hn hlt H HF
      have hnl : ¬ (ns.length : Int) < (ns.length : Int) := by omega
      go_wp2_with fail
      go_ret
      exact ⟨-1, rfl, by rw [HS.out]; rfl, Hadd.out⟩
set_option maxRecDepth 100000 in
set_option maxHeartbeats 2000000 in
theorem idxL_calls (p : Lc → Bool) (v : Value) (ns : List Lc) (w : World) (h : LS w v ns)
    (hf : ∀ x ∈ ns, ∀ w', Add w w' → Calls Try.prog 26 #[lcV x] w' (RetA w' (.bool (p x)))) :
    Calls Try.prog 47 #[v, .func (.func 26) #[] #[]] w (Found w (ns.any p)) := by
  obtain ⟨A, c, e, h1, h2, h3, h4⟩ := id h
  subst e
  have H := Lib.hid h
  have HF := Lib.hid hf
  unfold maxLen at h2
  clear h hf h3 h4
  go_enter Try.func47, Try.ntmps47
  go_wp2_with fail
  go_loopw [8] (fun i wr => ∃ n : Nat, n ≤ ns.length ∧ i = .int .i64 n ∧ (ns.take n).any p = false ∧ Add w wr) (fun i _ => ns.length - (intOf i).toNat)
  case atStart => exact ⟨0, Nat.zero_le _, rfl, rfl, Add.refl w⟩
  case round =>
    obtain ⟨n, hn, rfl, hany, hadd⟩ := hrel
    by_cases hlt : n < ns.length
    · obtain ⟨b, off, rfl⟩ := H.out.head (by omega)
      obtain ⟨hc0, hc1, hc2⟩ := (H.out.below hadd).cellsAt n hlt
      have q := HF.out _ (List.getElem_mem hlt) _ hadd
      have hst := any_take p ns n hlt hany
      have hyes := any_at p ns n hlt
      generalize ns[n] = x at *
      have hltI : (n : Int) < (ns.length : Int) := by omega
      have Hadd := Lib.hid hadd
      have Q := Lib.hid q
      have Hst := Lib.hid hst
      have Hyes := Lib.hid hyes
      have Hany := Lib.hid hany
      clear hadd q hst hyes hany
      clear H HF
      go_wp2_with fail
      refine Q.out.mono ?_
      rintro e w1 ⟨rfl, a1⟩
      have A1 := Lib.hid (Hadd.out.trans a1)
      clear Q a1 Hadd
      cases hp : p x
      · have HS := Lib.hid (Hst.out hp)
        clear hp Hst Hyes
        go_wp2_with fail
        go_roundw
        case rel => exact ⟨n + 1, by omega, by go_num, HS.out, A1.out⟩
        case measure => simp [intOf]; omega
      · have HS := Lib.hid (Hyes.out hp)
        clear hp Hst Hyes
        go_wp2_with fail
        go_ret
        exact ⟨n, rfl, by rw [HS.out]; exact decide_eq_true (by omega), A1.out⟩
    · obtain rfl : n = ns.length := by omega
      have HS := Lib.hid (show ns.any p = false by rw [← hany, List.take_length])
      have Hadd := Lib.hid hadd
      clear hadd
      clear hany hn hlt H HF
      have hnl : ¬ (ns.length : Int) < (ns.length : Int) := by omega
      go_wp2_with fail
      go_ret
      exact ⟨-1, rfl, by rw [HS.out]; rfl, Hadd.out⟩
set_option maxRecDepth 100000 in
set_option maxHeartbeats 2000000 in
set_option maxRecDepth 100000 in
set_option maxHeartbeats 2000000 in
theorem hasI_calls (v fv : Value) (b : Bool) (w : World) (h : Calls Try.prog 46 #[v, fv] w (Found w b)) : Calls Try.prog 22 #[v, fv] w (RetA w (.bool b)) := by
  have Q := Lib.hid h
  clear h
  go_enter Try.func22, Try.ntmps22
  go_wp2_with fail
  refine Q.out.mono ?_
  rintro e w1 ⟨i, rfl, hi, a1⟩
  have A1 := Lib.hid a1
  clear a1
  clear Q
  cases b
  · have hi' : i < 0 := by simpa using hi
    clear hi
    go_wp2_with fail
    go_ret
    exact ⟨by simp; omega, A1.out⟩
  · have hi' : 0 ≤ i := by simpa using hi
    clear hi
    go_wp2_with fail
    go_ret
    exact ⟨by simp, A1.out⟩
set_option maxRecDepth 100000 in
set_option maxHeartbeats 2000000 in
theorem hasL_calls (v fv : Value) (b : Bool) (w : World) (h : Calls Try.prog 47 #[v, fv] w (Found w b)) : Calls Try.prog 25 #[v, fv] w (RetA w (.bool b)) := by
  have Q := Lib.hid h
  clear h
  go_enter Try.func25, Try.ntmps25
  go_wp2_with fail
  refine Q.out.mono ?_
  rintro e w1 ⟨i, rfl, hi, a1⟩
  have A1 := Lib.hid a1
  clear a1
  clear Q
  cases b
  · have hi' : i < 0 := by simpa using hi
    clear hi
    go_wp2_with fail
    go_ret
    exact ⟨by simp; omega, A1.out⟩
  · have hi' : 0 ≤ i := by simpa using hi
    clear hi
    go_wp2_with fail
    go_ret
    exact ⟨by simp, A1.out⟩
theorem not_any_all {α : Type} (p : α → Bool) (l : List α) : (!l.any fun x => !p x) = l.all p := by
  induction l with
  | nil => rfl
  | cons a l ih => simp only [List.any_cons, List.all_cons, Bool.not_or, Bool.not_not, ih]
set_option maxRecDepth 100000 in
set_option maxHeartbeats 2000000 in
theorem tableok_calls (t : Tb) (w : World) : Calls Try.prog 45 #[tbV t] w (RetA w (.bool (tbOk t))) := by
  have s := (St.init w).alloc (.cells #[.int .i64 t.hot, .int .i64 t.warm, .int .i64 t.gap, .int .i64 t.add, .int .i64 t.top, .int .i64 t.half] 25)
  have Q := Lib.hid (numbers_calls t _ s)
  have E := Lib.hid (show tbOk t = !t.list.any fun n => !inn n 0 1000000 from (not_any_all _ _).symm)
  unfold tbV at Q ⊢
  clear s
  go_enter Try.func45, Try.ntmps45
  go_wp2_with fail
  refine Q.out.mono ?_
  rintro e w1 ⟨g, rfl, s1⟩
  have q := hasI_calls _ _ _ w1 (idxT_calls (fun n => !inn n 0 1000000) _ _ w1 s1.iS fun x _ w' _ => tab1_calls x w')
  have A1 := Lib.hid s1.below
  have Q2 := Lib.hid q
  clear q s1 Q
  go_wp2_with fail
  refine Q2.out.mono ?_
  rintro e w2 ⟨rfl, a2⟩
  have A2 := Lib.hid (Add.trans A1.out a2)
  clear a2 Q2 A1
  cases h : t.list.any fun n => !inn n 0 1000000
  all_goals
    go_wp2_with fail
    go_ret
    exact ⟨by rw [E.out, h]; rfl, A2.out⟩
theorem box2_cells {w w1 : World} {c c2 : Array Value} {t t2 : TypeId} (a : Add ((w.alloc (.cells c t (0, 0))).alloc (.cells c2 t2 (0, 0))) w1) :
    (∀ i, w1.cell? ⟨w.heap.size, i, none⟩ = c[i]?) ∧ (∀ i, w1.cell? ⟨w.heap.size + 1, i, none⟩ = c2[i]?) ∧ Add w w1 := by
  have s := ((((St.init w).alloc (.cells c t (0, 0))).alloc (.cells c2 t2 (0, 0))).keep a)
  rw [show (w.alloc (.cells c t (0, 0))).heap.size = w.heap.size + 1 by simp] at s
  exact ⟨fun i => (s.eq (sep_left_comm _ _ _)).cell i, fun i => s.cell i, s.below⟩
theorem nz_take (s : List Int) (n : Nat) (h : n < s.length) : nz (s.take (n + 1)) = nz (s.take n) + if s[n] = 0 then 0 else 2 := by
  unfold nz
  rw [List.take_succ_eq_append_getElem h, List.filter_append, List.length_append]
  by_cases e : s[n] = 0
  · simp [e]
  · simp [e]; omega
theorem nz_le (s : List Int) : nz s ≤ 2 * s.length := by
  unfold nz
  have := List.length_filter_le (fun s : Int => decide (s ≠ 0)) s
  omega
set_option maxRecDepth 100000 in
set_option maxHeartbeats 2000000 in
theorem count_calls (x : Sh) (r : Rc) (sv lv : Value) (w : World) (hs : IS w sv r.sids) (hl : r.sids.length ≤ 1000000) : Calls Try.prog 24 #[shV x, rcV r sv lv] w (RetA w (.int .i64 (cntL x r.sids : Nat))) := by
  unfold shV rcV
  have A := Lib.hid (box2_cells (Add.refl ((w.alloc (.cells #[.bool x.key, .bool x.sid, .bool x.colour, .bool x.table, .int .i64 x.n, .int .i64 x.sids, .int .i64 x.locs] 51)).alloc (.cells #[.int .i64 r.kind, str r.key, .int .i64 r.n, .int .i64 r.sid, sv, .int .i64 r.colour, lv, .int .i64 r.tab.hot, .int .i64 r.tab.warm, .int .i64 r.tab.gap, .int .i64 r.tab.add, .int .i64 r.tab.top, .int .i64 r.tab.half] 27)))).2.2
  by_cases h0 : 0 ≤ x.locs
  · have E := Lib.hid (show ((cntL x r.sids : Nat) : Int) = x.locs by unfold cntL; rw [if_pos h0]; omega)
    clear hs
    go_enter Try.func24, Try.ntmps24
    go_wp2_with fail
    go_ret
    rw [E.out]
    exact ⟨rfl, A.out⟩
  · have E := Lib.hid (show cntL x r.sids = nz r.sids by unfold cntL; rw [if_neg h0]; rfl)
    obtain ⟨a, c, e, h1, h2, h3, h4⟩ := id hs
    have h0' : x.locs < 0 := by omega
    subst e
    have H := Lib.hid hs
    clear hs h3 h4 h0
    unfold maxLen at h2
    go_enter Try.func24, Try.ntmps24
    go_wp2_with fail
    go_loopw [5, 16] (fun v5 i wr => ∃ n : Nat, n ≤ r.sids.length ∧ i = .int .i64 n ∧ v5 = .int .i64 (nz (r.sids.take n) : Nat) ∧ Add w wr) (fun _ i _ => r.sids.length - (intOf i).toNat)
    case atStart => exact ⟨0, Nat.zero_le _, rfl, rfl, A.out⟩
    case round =>
      obtain ⟨n, hn, rfl, rfl, hadd⟩ := hrel
      clear A
      by_cases hlt : n < r.sids.length
      · obtain ⟨b, off, rfl⟩ := H.out.head (by omega)
        have hc := (H.out.below hadd).cellAt n hlt
        have hst := nz_take r.sids n hlt
        have hle := nz_le (r.sids.take n)
        have htl : (r.sids.take n).length = n := by rw [List.length_take]; omega
        have hb : nz (r.sids.take n) ≤ 2000000 := by omega
        generalize nz (r.sids.take n) = m at *
        generalize r.sids[n] = x at *
        have hltI : (n : Int) < (r.sids.length : Int) := by omega
        clear hle htl
        by_cases hx : x = 0
        · have Hst := Lib.hid (show nz (r.sids.take (n + 1)) = m by rw [hst, if_pos hx]; omega)
          clear hst
          have Hadd := Lib.hid hadd
          clear hadd
          go_wp2_with fail
          go_roundw
          case rel => exact ⟨n + 1, by omega, by go_num, by rw [Hst.out], Hadd.out⟩
          case measure => simp [intOf]; omega
        · have Hst := Lib.hid (show nz (r.sids.take (n + 1)) = m + 2 by rw [hst, if_neg hx])
          clear hst
          have Hadd := Lib.hid hadd
          clear hadd
          go_wp2_with fail
          go_roundw
          case rel => exact ⟨n + 1, by omega, by go_num, by rw [Hst.out]; go_num, Hadd.out⟩
          case measure => simp [intOf]; omega
      · obtain rfl : n = r.sids.length := by omega
        have hnl : ¬ (r.sids.length : Int) < (r.sids.length : Int) := by omega
        have Hadd := Lib.hid hadd
        clear hadd
        clear hlt hn
        go_wp2_with fail
        go_ret
        rw [E.out]
        exact ⟨rfl, Hadd.out⟩
/-- A table of noughts. -/
def tbz (t : Tb) : Bool := decide (t.hot = 0) && decide (t.warm = 0) && decide (t.gap = 0) && decide (t.add = 0) && decide (t.top = 0) && decide (t.half = 0)
theorem tbz_eq (t : Tb) : tbz t = decide (t = Tb.zero) := by
  obtain ⟨a, b, c, d, e, f⟩ := t
  rw [Bool.eq_iff_iff]
  simp [tbz, Tb.zero, and_assoc]
set_option maxRecDepth 100000 in
set_option maxHeartbeats 4000000 in
theorem plain_1 (r : Rc) (sv lv : Value) (w : World) (hk : r.key.length ≤ maxLen) : Calls Try.prog 21 #[shV (shp 1), rcV r sv lv] w (RetA w (.bool (plain (shp 1) r))) := by
  have E := Lib.hid (show plain (shp 1) r = (keyOk r.key && inn r.sid 1 2147483647 && inn r.n 0 64 && decide (r.colour = 0) && tbz r.tab) by rw [tbz_eq]; rfl)
  have A := Lib.hid (fun (w1 : World) (c c2 : Array Value) (t t2 : TypeId) (a : Add ((w.alloc (.cells c t (0, 0))).alloc (.cells c2 t2 (0, 0))) w1) => box2_cells a)
  rw [show shV (shp 1) = .agg #[.bool true, .bool true, .bool false, .bool false, .int .i64 64, .int .i64 (-1), .int .i64 3] from rfl]
  unfold rcV
  go_enter Try.func21, Try.ntmps21
  go_wp2_with fail
  refine ((keyok_calls r.key hk) _).mono ?_
  rintro e w1 ⟨rfl, a1⟩
  have B1 := Lib.hid (a1)
  obtain ⟨p1, q1, D1⟩ := A.out _ _ _ _ _ B1.out
  have ADD := Lib.hid D1
  have cp0 := p1 0
  have cp1 := p1 1
  have cp2 := p1 2
  have cp3 := p1 3
  have cp4 := p1 4
  have cq1 := q1 1
  have cq2 := q1 2
  have cq3 := q1 3
  have cq5 := q1 5
  have ct0 := q1 7
  have ct1 := q1 8
  have ct2 := q1 9
  have ct3 := q1 10
  have ct4 := q1 11
  have ct5 := q1 12
  simp at cp0 cp1 cp2 cp3 cp4 cq1 cq2 cq3 cq5 ct0 ct1 ct2 ct3 ct4 ct5

  clear p1 q1 D1 a1
  cases h0 : keyOk r.key
  case false =>
    go_wp2_with fail
    go_ret
    exact ⟨by rw [E.out]; simp [h0], ADD.out⟩
  go_wp2_with fail
  refine ((in_calls r.sid 1 2147483647) _).mono ?_
  rintro e w2 ⟨rfl, a2⟩
  have B2 := Lib.hid (Add.trans B1.out a2)
  obtain ⟨p2, q2, D2⟩ := A.out _ _ _ _ _ B2.out
  clear cp0 cp2 cp3 cp4 cq1 cq2 cq3 cq5 ct0 ct1 ct2 ct3 ct4 ct5
  clear ADD
  have ADD := Lib.hid D2
  have cp0 := p2 0
  clear cp1
  have cp1 := p2 1
  have cp2 := p2 2
  have cp3 := p2 3
  have cp4 := p2 4
  have cq1 := q2 1
  have cq2 := q2 2
  have cq3 := q2 3
  have cq5 := q2 5
  have ct0 := q2 7
  have ct1 := q2 8
  have ct2 := q2 9
  have ct3 := q2 10
  have ct4 := q2 11
  have ct5 := q2 12
  simp at cp0 cp1 cp2 cp3 cp4 cq1 cq2 cq3 cq5 ct0 ct1 ct2 ct3 ct4 ct5

  clear p2 q2 D2 a2
  cases h1 : inn r.sid 1 2147483647
  case false =>
    go_wp2_with fail
    go_ret
    exact ⟨by rw [E.out]; simp [h1], ADD.out⟩
  go_wp2_with fail
  refine ((in_calls r.n 0 64) _).mono ?_
  rintro e w3 ⟨rfl, a3⟩
  have B3 := Lib.hid (Add.trans B2.out a3)
  obtain ⟨p3, q3, D3⟩ := A.out _ _ _ _ _ B3.out
  clear cp0 cp2 cp3 cp4 cq1 cq2 cq3 cq5 ct0 ct1 ct2 ct3 ct4 ct5
  clear ADD
  have ADD := Lib.hid D3
  have cp0 := p3 0
  clear cp1
  have cp1 := p3 1
  have cp2 := p3 2
  have cp3 := p3 3
  have cp4 := p3 4
  have cq1 := q3 1
  have cq2 := q3 2
  have cq3 := q3 3
  have cq5 := q3 5
  have ct0 := q3 7
  have ct1 := q3 8
  have ct2 := q3 9
  have ct3 := q3 10
  have ct4 := q3 11
  have ct5 := q3 12
  simp at cp0 cp1 cp2 cp3 cp4 cq1 cq2 cq3 cq5 ct0 ct1 ct2 ct3 ct4 ct5

  clear p3 q3 D3 a3
  cases h2 : inn r.n 0 64
  case false =>
    go_wp2_with fail
    go_ret
    exact ⟨by rw [E.out]; simp [h2], ADD.out⟩
  cases h3 : decide (r.colour = 0)
  case' false => have e3 : r.colour ≠ 0 := by simpa using h3
  case' true => have e3 : r.colour = 0 := by simpa using h3
  case false =>
    go_wp2_with fail
    go_ret
    exact ⟨by rw [E.out]; simp [h3], ADD.out⟩
  go_wp2_with fail
  all_goals
    go_ret
    refine ⟨?_, ADD.out⟩
    rw [E.out]
    simp [h0, h1, h2, h3, tbz]
    try omega
set_option maxRecDepth 100000 in
set_option maxHeartbeats 4000000 in
theorem plain_2 (r : Rc) (sv lv : Value) (w : World) (hk : r.key.length ≤ maxLen) : Calls Try.prog 21 #[shV (shp 2), rcV r sv lv] w (RetA w (.bool (plain (shp 2) r))) := by
  have E := Lib.hid (show plain (shp 2) r = (keyOk r.key && decide (r.sid = 0) && inn r.n 0 0 && decide (r.colour = 0) && tbz r.tab) by rw [tbz_eq]; rfl)
  have A := Lib.hid (fun (w1 : World) (c c2 : Array Value) (t t2 : TypeId) (a : Add ((w.alloc (.cells c t (0, 0))).alloc (.cells c2 t2 (0, 0))) w1) => box2_cells a)
  rw [show shV (shp 2) = .agg #[.bool true, .bool false, .bool false, .bool false, .int .i64 (-1), .int .i64 (-1), .int .i64 0] from rfl]
  unfold rcV
  go_enter Try.func21, Try.ntmps21
  go_wp2_with fail
  refine ((keyok_calls r.key hk) _).mono ?_
  rintro e w1 ⟨rfl, a1⟩
  have B1 := Lib.hid (a1)
  obtain ⟨p1, q1, D1⟩ := A.out _ _ _ _ _ B1.out
  have ADD := Lib.hid D1
  have cp0 := p1 0
  have cp1 := p1 1
  have cp2 := p1 2
  have cp3 := p1 3
  have cp4 := p1 4
  have cq1 := q1 1
  have cq2 := q1 2
  have cq3 := q1 3
  have cq5 := q1 5
  have ct0 := q1 7
  have ct1 := q1 8
  have ct2 := q1 9
  have ct3 := q1 10
  have ct4 := q1 11
  have ct5 := q1 12
  simp at cp0 cp1 cp2 cp3 cp4 cq1 cq2 cq3 cq5 ct0 ct1 ct2 ct3 ct4 ct5

  clear p1 q1 D1 a1
  cases h0 : keyOk r.key
  case false =>
    go_wp2_with fail
    go_ret
    exact ⟨by rw [E.out]; simp [h0], ADD.out⟩
  cases h1 : decide (r.sid = 0)
  case' false => have e1 : r.sid ≠ 0 := by simpa using h1
  case' true => have e1 : r.sid = 0 := by simpa using h1
  case false =>
    go_wp2_with fail
    go_ret
    exact ⟨by rw [E.out]; simp [h1], ADD.out⟩
  go_wp2_with fail
  refine ((in_calls r.n 0 0) _).mono ?_
  rintro e w2 ⟨rfl, a2⟩
  have B2 := Lib.hid (Add.trans B1.out a2)
  obtain ⟨p2, q2, D2⟩ := A.out _ _ _ _ _ B2.out
  clear cp0 cp2 cp3 cp4 cq1 cq2 cq3 cq5 ct0 ct1 ct2 ct3 ct4 ct5
  clear ADD
  have ADD := Lib.hid D2
  have cp0 := p2 0
  clear cp1
  have cp1 := p2 1
  have cp2 := p2 2
  have cp3 := p2 3
  have cp4 := p2 4
  have cq1 := q2 1
  have cq2 := q2 2
  have cq3 := q2 3
  have cq5 := q2 5
  have ct0 := q2 7
  have ct1 := q2 8
  have ct2 := q2 9
  have ct3 := q2 10
  have ct4 := q2 11
  have ct5 := q2 12
  simp at cp0 cp1 cp2 cp3 cp4 cq1 cq2 cq3 cq5 ct0 ct1 ct2 ct3 ct4 ct5

  clear p2 q2 D2 a2
  cases h2 : inn r.n 0 0
  case false =>
    go_wp2_with fail
    go_ret
    exact ⟨by rw [E.out]; simp [h2], ADD.out⟩
  cases h3 : decide (r.colour = 0)
  case' false => have e3 : r.colour ≠ 0 := by simpa using h3
  case' true => have e3 : r.colour = 0 := by simpa using h3
  case false =>
    go_wp2_with fail
    go_ret
    exact ⟨by rw [E.out]; simp [h3], ADD.out⟩
  go_wp2_with fail
  all_goals
    go_ret
    refine ⟨?_, ADD.out⟩
    rw [E.out]
    simp [h0, h1, h2, h3, tbz]
    try omega
set_option maxRecDepth 100000 in
set_option maxHeartbeats 4000000 in
theorem plain_3 (r : Rc) (sv lv : Value) (w : World) (hk : r.key.length ≤ maxLen) : Calls Try.prog 21 #[shV (shp 3), rcV r sv lv] w (RetA w (.bool (plain (shp 3) r))) := by
  have E := Lib.hid (show plain (shp 3) r = (keyOk r.key && inn r.sid 1 2147483647 && inn r.n 0 0 && inn r.colour 0 2 && tbz r.tab) by rw [tbz_eq]; rfl)
  have A := Lib.hid (fun (w1 : World) (c c2 : Array Value) (t t2 : TypeId) (a : Add ((w.alloc (.cells c t (0, 0))).alloc (.cells c2 t2 (0, 0))) w1) => box2_cells a)
  rw [show shV (shp 3) = .agg #[.bool true, .bool true, .bool true, .bool false, .int .i64 (-1), .int .i64 (-1), .int .i64 6] from rfl]
  unfold rcV
  go_enter Try.func21, Try.ntmps21
  go_wp2_with fail
  refine ((keyok_calls r.key hk) _).mono ?_
  rintro e w1 ⟨rfl, a1⟩
  have B1 := Lib.hid (a1)
  obtain ⟨p1, q1, D1⟩ := A.out _ _ _ _ _ B1.out
  have ADD := Lib.hid D1
  have cp0 := p1 0
  have cp1 := p1 1
  have cp2 := p1 2
  have cp3 := p1 3
  have cp4 := p1 4
  have cq1 := q1 1
  have cq2 := q1 2
  have cq3 := q1 3
  have cq5 := q1 5
  have ct0 := q1 7
  have ct1 := q1 8
  have ct2 := q1 9
  have ct3 := q1 10
  have ct4 := q1 11
  have ct5 := q1 12
  simp at cp0 cp1 cp2 cp3 cp4 cq1 cq2 cq3 cq5 ct0 ct1 ct2 ct3 ct4 ct5

  clear p1 q1 D1 a1
  cases h0 : keyOk r.key
  case false =>
    go_wp2_with fail
    go_ret
    exact ⟨by rw [E.out]; simp [h0], ADD.out⟩
  go_wp2_with fail
  refine ((in_calls r.sid 1 2147483647) _).mono ?_
  rintro e w2 ⟨rfl, a2⟩
  have B2 := Lib.hid (Add.trans B1.out a2)
  obtain ⟨p2, q2, D2⟩ := A.out _ _ _ _ _ B2.out
  clear cp0 cp2 cp3 cp4 cq1 cq2 cq3 cq5 ct0 ct1 ct2 ct3 ct4 ct5
  clear ADD
  have ADD := Lib.hid D2
  have cp0 := p2 0
  clear cp1
  have cp1 := p2 1
  have cp2 := p2 2
  have cp3 := p2 3
  have cp4 := p2 4
  have cq1 := q2 1
  have cq2 := q2 2
  have cq3 := q2 3
  have cq5 := q2 5
  have ct0 := q2 7
  have ct1 := q2 8
  have ct2 := q2 9
  have ct3 := q2 10
  have ct4 := q2 11
  have ct5 := q2 12
  simp at cp0 cp1 cp2 cp3 cp4 cq1 cq2 cq3 cq5 ct0 ct1 ct2 ct3 ct4 ct5

  clear p2 q2 D2 a2
  cases h1 : inn r.sid 1 2147483647
  case false =>
    go_wp2_with fail
    go_ret
    exact ⟨by rw [E.out]; simp [h1], ADD.out⟩
  go_wp2_with fail
  refine ((in_calls r.n 0 0) _).mono ?_
  rintro e w3 ⟨rfl, a3⟩
  have B3 := Lib.hid (Add.trans B2.out a3)
  obtain ⟨p3, q3, D3⟩ := A.out _ _ _ _ _ B3.out
  clear cp0 cp2 cp3 cp4 cq1 cq2 cq3 cq5 ct0 ct1 ct2 ct3 ct4 ct5
  clear ADD
  have ADD := Lib.hid D3
  have cp0 := p3 0
  clear cp1
  have cp1 := p3 1
  have cp2 := p3 2
  have cp3 := p3 3
  have cp4 := p3 4
  have cq1 := q3 1
  have cq2 := q3 2
  have cq3 := q3 3
  have cq5 := q3 5
  have ct0 := q3 7
  have ct1 := q3 8
  have ct2 := q3 9
  have ct3 := q3 10
  have ct4 := q3 11
  have ct5 := q3 12
  simp at cp0 cp1 cp2 cp3 cp4 cq1 cq2 cq3 cq5 ct0 ct1 ct2 ct3 ct4 ct5

  clear p3 q3 D3 a3
  cases h2 : inn r.n 0 0
  case false =>
    go_wp2_with fail
    go_ret
    exact ⟨by rw [E.out]; simp [h2], ADD.out⟩
  go_wp2_with fail
  refine ((in_calls r.colour 0 2) _).mono ?_
  rintro e w4 ⟨rfl, a4⟩
  have B4 := Lib.hid (Add.trans B3.out a4)
  obtain ⟨p4, q4, D4⟩ := A.out _ _ _ _ _ B4.out
  clear cp0 cp2 cp3 cp4 cq1 cq2 cq3 cq5 ct0 ct1 ct2 ct3 ct4 ct5
  clear ADD
  have ADD := Lib.hid D4
  have cp0 := p4 0
  clear cp1
  have cp1 := p4 1
  have cp2 := p4 2
  have cp3 := p4 3
  have cp4 := p4 4
  have cq1 := q4 1
  have cq2 := q4 2
  have cq3 := q4 3
  have cq5 := q4 5
  have ct0 := q4 7
  have ct1 := q4 8
  have ct2 := q4 9
  have ct3 := q4 10
  have ct4 := q4 11
  have ct5 := q4 12
  simp at cp0 cp1 cp2 cp3 cp4 cq1 cq2 cq3 cq5 ct0 ct1 ct2 ct3 ct4 ct5

  clear p4 q4 D4 a4
  cases h3 : inn r.colour 0 2
  case false =>
    go_wp2_with fail
    go_ret
    exact ⟨by rw [E.out]; simp [h3], ADD.out⟩
  go_wp2_with fail
  all_goals
    go_ret
    refine ⟨?_, ADD.out⟩
    rw [E.out]
    simp [h0, h1, h2, h3, tbz]
    try omega
set_option maxRecDepth 100000 in
set_option maxHeartbeats 4000000 in
theorem plain_4 (r : Rc) (sv lv : Value) (w : World) (hk : r.key.length ≤ maxLen) : Calls Try.prog 21 #[shV (shp 4), rcV r sv lv] w (RetA w (.bool (plain (shp 4) r))) := by
  have E := Lib.hid (show plain (shp 4) r = (keyOk r.key && inn r.sid 1 2147483647 && inn r.n 0 0 && decide (r.colour = 0) && tbz r.tab) by rw [tbz_eq]; rfl)
  have A := Lib.hid (fun (w1 : World) (c c2 : Array Value) (t t2 : TypeId) (a : Add ((w.alloc (.cells c t (0, 0))).alloc (.cells c2 t2 (0, 0))) w1) => box2_cells a)
  rw [show shV (shp 4) = .agg #[.bool true, .bool true, .bool false, .bool false, .int .i64 (-1), .int .i64 (-1), .int .i64 3] from rfl]
  unfold rcV
  go_enter Try.func21, Try.ntmps21
  go_wp2_with fail
  refine ((keyok_calls r.key hk) _).mono ?_
  rintro e w1 ⟨rfl, a1⟩
  have B1 := Lib.hid (a1)
  obtain ⟨p1, q1, D1⟩ := A.out _ _ _ _ _ B1.out
  have ADD := Lib.hid D1
  have cp0 := p1 0
  have cp1 := p1 1
  have cp2 := p1 2
  have cp3 := p1 3
  have cp4 := p1 4
  have cq1 := q1 1
  have cq2 := q1 2
  have cq3 := q1 3
  have cq5 := q1 5
  have ct0 := q1 7
  have ct1 := q1 8
  have ct2 := q1 9
  have ct3 := q1 10
  have ct4 := q1 11
  have ct5 := q1 12
  simp at cp0 cp1 cp2 cp3 cp4 cq1 cq2 cq3 cq5 ct0 ct1 ct2 ct3 ct4 ct5

  clear p1 q1 D1 a1
  cases h0 : keyOk r.key
  case false =>
    go_wp2_with fail
    go_ret
    exact ⟨by rw [E.out]; simp [h0], ADD.out⟩
  go_wp2_with fail
  refine ((in_calls r.sid 1 2147483647) _).mono ?_
  rintro e w2 ⟨rfl, a2⟩
  have B2 := Lib.hid (Add.trans B1.out a2)
  obtain ⟨p2, q2, D2⟩ := A.out _ _ _ _ _ B2.out
  clear cp0 cp2 cp3 cp4 cq1 cq2 cq3 cq5 ct0 ct1 ct2 ct3 ct4 ct5
  clear ADD
  have ADD := Lib.hid D2
  have cp0 := p2 0
  clear cp1
  have cp1 := p2 1
  have cp2 := p2 2
  have cp3 := p2 3
  have cp4 := p2 4
  have cq1 := q2 1
  have cq2 := q2 2
  have cq3 := q2 3
  have cq5 := q2 5
  have ct0 := q2 7
  have ct1 := q2 8
  have ct2 := q2 9
  have ct3 := q2 10
  have ct4 := q2 11
  have ct5 := q2 12
  simp at cp0 cp1 cp2 cp3 cp4 cq1 cq2 cq3 cq5 ct0 ct1 ct2 ct3 ct4 ct5

  clear p2 q2 D2 a2
  cases h1 : inn r.sid 1 2147483647
  case false =>
    go_wp2_with fail
    go_ret
    exact ⟨by rw [E.out]; simp [h1], ADD.out⟩
  go_wp2_with fail
  refine ((in_calls r.n 0 0) _).mono ?_
  rintro e w3 ⟨rfl, a3⟩
  have B3 := Lib.hid (Add.trans B2.out a3)
  obtain ⟨p3, q3, D3⟩ := A.out _ _ _ _ _ B3.out
  clear cp0 cp2 cp3 cp4 cq1 cq2 cq3 cq5 ct0 ct1 ct2 ct3 ct4 ct5
  clear ADD
  have ADD := Lib.hid D3
  have cp0 := p3 0
  clear cp1
  have cp1 := p3 1
  have cp2 := p3 2
  have cp3 := p3 3
  have cp4 := p3 4
  have cq1 := q3 1
  have cq2 := q3 2
  have cq3 := q3 3
  have cq5 := q3 5
  have ct0 := q3 7
  have ct1 := q3 8
  have ct2 := q3 9
  have ct3 := q3 10
  have ct4 := q3 11
  have ct5 := q3 12
  simp at cp0 cp1 cp2 cp3 cp4 cq1 cq2 cq3 cq5 ct0 ct1 ct2 ct3 ct4 ct5

  clear p3 q3 D3 a3
  cases h2 : inn r.n 0 0
  case false =>
    go_wp2_with fail
    go_ret
    exact ⟨by rw [E.out]; simp [h2], ADD.out⟩
  cases h3 : decide (r.colour = 0)
  case' false => have e3 : r.colour ≠ 0 := by simpa using h3
  case' true => have e3 : r.colour = 0 := by simpa using h3
  case false =>
    go_wp2_with fail
    go_ret
    exact ⟨by rw [E.out]; simp [h3], ADD.out⟩
  go_wp2_with fail
  all_goals
    go_ret
    refine ⟨?_, ADD.out⟩
    rw [E.out]
    simp [h0, h1, h2, h3, tbz]
    try omega
set_option maxRecDepth 100000 in
set_option maxHeartbeats 4000000 in
theorem plain_5 (r : Rc) (sv lv : Value) (w : World) (hk : r.key.length ≤ maxLen) : Calls Try.prog 21 #[shV (shp 5), rcV r sv lv] w (RetA w (.bool (plain (shp 5) r))) := by
  have E := Lib.hid (show plain (shp 5) r = (decide (r.key = []) && inn r.sid 1 2147483647 && inn r.n 0 0 && decide (r.colour = 0) && tbz r.tab) by rw [tbz_eq]; rfl)
  have A := Lib.hid (fun (w1 : World) (c c2 : Array Value) (t t2 : TypeId) (a : Add ((w.alloc (.cells c t (0, 0))).alloc (.cells c2 t2 (0, 0))) w1) => box2_cells a)
  rw [show shV (shp 5) = .agg #[.bool false, .bool true, .bool false, .bool false, .int .i64 (-1), .int .i64 1, .int .i64 4] from rfl]
  unfold rcV
  go_enter Try.func21, Try.ntmps21
  have ADD := Lib.hid (A.out _ _ _ _ _ (Add.refl ((w.alloc (.cells #[.bool false, .bool true, .bool false, .bool false, .int .i64 (-1), .int .i64 1, .int .i64 4] 51)).alloc (.cells #[.int .i64 r.kind, str r.key, .int .i64 r.n, .int .i64 r.sid, sv, .int .i64 r.colour, lv, .int .i64 r.tab.hot, .int .i64 r.tab.warm, .int .i64 r.tab.gap, .int .i64 r.tab.add, .int .i64 r.tab.top, .int .i64 r.tab.half] 27)))).2.2
  cases h0 : decide (r.key = [])
  case' false => have e0 : r.key.isEmpty = false := by simpa using h0
  case' true => have e0 : r.key.isEmpty = true := by simpa using h0
  case false =>
    go_wp2_with fail
    go_ret
    exact ⟨by rw [E.out]; simp [h0], ADD.out⟩
  go_wp2_with fail
  refine ((in_calls r.sid 1 2147483647) _).mono ?_
  rintro e w1 ⟨rfl, a1⟩
  have B1 := Lib.hid (a1)
  obtain ⟨p1, q1, D1⟩ := A.out _ _ _ _ _ B1.out
  have ADD := Lib.hid D1
  have cp0 := p1 0
  have cp1 := p1 1
  have cp2 := p1 2
  have cp3 := p1 3
  have cp4 := p1 4
  have cq1 := q1 1
  have cq2 := q1 2
  have cq3 := q1 3
  have cq5 := q1 5
  have ct0 := q1 7
  have ct1 := q1 8
  have ct2 := q1 9
  have ct3 := q1 10
  have ct4 := q1 11
  have ct5 := q1 12
  simp at cp0 cp1 cp2 cp3 cp4 cq1 cq2 cq3 cq5 ct0 ct1 ct2 ct3 ct4 ct5

  clear p1 q1 D1 a1
  cases h1 : inn r.sid 1 2147483647
  case false =>
    go_wp2_with fail
    go_ret
    exact ⟨by rw [E.out]; simp [h1], ADD.out⟩
  go_wp2_with fail
  refine ((in_calls r.n 0 0) _).mono ?_
  rintro e w2 ⟨rfl, a2⟩
  have B2 := Lib.hid (Add.trans B1.out a2)
  obtain ⟨p2, q2, D2⟩ := A.out _ _ _ _ _ B2.out
  clear cp0 cp2 cp3 cp4 cq1 cq2 cq3 cq5 ct0 ct1 ct2 ct3 ct4 ct5
  clear ADD
  have ADD := Lib.hid D2
  have cp0 := p2 0
  clear cp1
  have cp1 := p2 1
  have cp2 := p2 2
  have cp3 := p2 3
  have cp4 := p2 4
  have cq1 := q2 1
  have cq2 := q2 2
  have cq3 := q2 3
  have cq5 := q2 5
  have ct0 := q2 7
  have ct1 := q2 8
  have ct2 := q2 9
  have ct3 := q2 10
  have ct4 := q2 11
  have ct5 := q2 12
  simp at cp0 cp1 cp2 cp3 cp4 cq1 cq2 cq3 cq5 ct0 ct1 ct2 ct3 ct4 ct5

  clear p2 q2 D2 a2
  cases h2 : inn r.n 0 0
  case false =>
    go_wp2_with fail
    go_ret
    exact ⟨by rw [E.out]; simp [h2], ADD.out⟩
  cases h3 : decide (r.colour = 0)
  case' false => have e3 : r.colour ≠ 0 := by simpa using h3
  case' true => have e3 : r.colour = 0 := by simpa using h3
  case false =>
    go_wp2_with fail
    go_ret
    exact ⟨by rw [E.out]; simp [h3], ADD.out⟩
  go_wp2_with fail
  all_goals
    go_ret
    refine ⟨?_, ADD.out⟩
    rw [E.out]
    simp [h0, h1, h2, h3, tbz]
    try omega
set_option maxRecDepth 100000 in
set_option maxHeartbeats 4000000 in
theorem plain_6 (r : Rc) (sv lv : Value) (w : World) (hk : r.key.length ≤ maxLen) : Calls Try.prog 21 #[shV (shp 6), rcV r sv lv] w (RetA w (.bool (plain (shp 6) r))) := by
  have E := Lib.hid (show plain (shp 6) r = (decide (r.key = []) && inn r.sid 1 2147483647 && inn r.n 0 0 && decide (r.colour = 0) && tbz r.tab) by rw [tbz_eq]; rfl)
  have A := Lib.hid (fun (w1 : World) (c c2 : Array Value) (t t2 : TypeId) (a : Add ((w.alloc (.cells c t (0, 0))).alloc (.cells c2 t2 (0, 0))) w1) => box2_cells a)
  rw [show shV (shp 6) = .agg #[.bool false, .bool true, .bool false, .bool false, .int .i64 (-1), .int .i64 0, .int .i64 (-1)] from rfl]
  unfold rcV
  go_enter Try.func21, Try.ntmps21
  have ADD := Lib.hid (A.out _ _ _ _ _ (Add.refl ((w.alloc (.cells #[.bool false, .bool true, .bool false, .bool false, .int .i64 (-1), .int .i64 0, .int .i64 (-1)] 51)).alloc (.cells #[.int .i64 r.kind, str r.key, .int .i64 r.n, .int .i64 r.sid, sv, .int .i64 r.colour, lv, .int .i64 r.tab.hot, .int .i64 r.tab.warm, .int .i64 r.tab.gap, .int .i64 r.tab.add, .int .i64 r.tab.top, .int .i64 r.tab.half] 27)))).2.2
  cases h0 : decide (r.key = [])
  case' false => have e0 : r.key.isEmpty = false := by simpa using h0
  case' true => have e0 : r.key.isEmpty = true := by simpa using h0
  case false =>
    go_wp2_with fail
    go_ret
    exact ⟨by rw [E.out]; simp [h0], ADD.out⟩
  go_wp2_with fail
  refine ((in_calls r.sid 1 2147483647) _).mono ?_
  rintro e w1 ⟨rfl, a1⟩
  have B1 := Lib.hid (a1)
  obtain ⟨p1, q1, D1⟩ := A.out _ _ _ _ _ B1.out
  have ADD := Lib.hid D1
  have cp0 := p1 0
  have cp1 := p1 1
  have cp2 := p1 2
  have cp3 := p1 3
  have cp4 := p1 4
  have cq1 := q1 1
  have cq2 := q1 2
  have cq3 := q1 3
  have cq5 := q1 5
  have ct0 := q1 7
  have ct1 := q1 8
  have ct2 := q1 9
  have ct3 := q1 10
  have ct4 := q1 11
  have ct5 := q1 12
  simp at cp0 cp1 cp2 cp3 cp4 cq1 cq2 cq3 cq5 ct0 ct1 ct2 ct3 ct4 ct5

  clear p1 q1 D1 a1
  cases h1 : inn r.sid 1 2147483647
  case false =>
    go_wp2_with fail
    go_ret
    exact ⟨by rw [E.out]; simp [h1], ADD.out⟩
  go_wp2_with fail
  refine ((in_calls r.n 0 0) _).mono ?_
  rintro e w2 ⟨rfl, a2⟩
  have B2 := Lib.hid (Add.trans B1.out a2)
  obtain ⟨p2, q2, D2⟩ := A.out _ _ _ _ _ B2.out
  clear cp0 cp2 cp3 cp4 cq1 cq2 cq3 cq5 ct0 ct1 ct2 ct3 ct4 ct5
  clear ADD
  have ADD := Lib.hid D2
  have cp0 := p2 0
  clear cp1
  have cp1 := p2 1
  have cp2 := p2 2
  have cp3 := p2 3
  have cp4 := p2 4
  have cq1 := q2 1
  have cq2 := q2 2
  have cq3 := q2 3
  have cq5 := q2 5
  have ct0 := q2 7
  have ct1 := q2 8
  have ct2 := q2 9
  have ct3 := q2 10
  have ct4 := q2 11
  have ct5 := q2 12
  simp at cp0 cp1 cp2 cp3 cp4 cq1 cq2 cq3 cq5 ct0 ct1 ct2 ct3 ct4 ct5

  clear p2 q2 D2 a2
  cases h2 : inn r.n 0 0
  case false =>
    go_wp2_with fail
    go_ret
    exact ⟨by rw [E.out]; simp [h2], ADD.out⟩
  cases h3 : decide (r.colour = 0)
  case' false => have e3 : r.colour ≠ 0 := by simpa using h3
  case' true => have e3 : r.colour = 0 := by simpa using h3
  case false =>
    go_wp2_with fail
    go_ret
    exact ⟨by rw [E.out]; simp [h3], ADD.out⟩
  go_wp2_with fail
  all_goals
    go_ret
    refine ⟨?_, ADD.out⟩
    rw [E.out]
    simp [h0, h1, h2, h3, tbz]
    try omega
set_option maxRecDepth 100000 in
set_option maxHeartbeats 4000000 in
theorem plain_7 (r : Rc) (sv lv : Value) (w : World) (hk : r.key.length ≤ maxLen) : Calls Try.prog 21 #[shV (shp 7), rcV r sv lv] w (RetA w (.bool (plain (shp 7) r))) := by
  have E := Lib.hid (show plain (shp 7) r = (decide (r.key = []) && inn r.sid 1 2147483647 && inn r.n 0 15 && decide (r.colour = 0) && tbz r.tab) by rw [tbz_eq]; rfl)
  have A := Lib.hid (fun (w1 : World) (c c2 : Array Value) (t t2 : TypeId) (a : Add ((w.alloc (.cells c t (0, 0))).alloc (.cells c2 t2 (0, 0))) w1) => box2_cells a)
  rw [show shV (shp 7) = .agg #[.bool false, .bool true, .bool false, .bool false, .int .i64 15, .int .i64 (-1), .int .i64 1] from rfl]
  unfold rcV
  go_enter Try.func21, Try.ntmps21
  have ADD := Lib.hid (A.out _ _ _ _ _ (Add.refl ((w.alloc (.cells #[.bool false, .bool true, .bool false, .bool false, .int .i64 15, .int .i64 (-1), .int .i64 1] 51)).alloc (.cells #[.int .i64 r.kind, str r.key, .int .i64 r.n, .int .i64 r.sid, sv, .int .i64 r.colour, lv, .int .i64 r.tab.hot, .int .i64 r.tab.warm, .int .i64 r.tab.gap, .int .i64 r.tab.add, .int .i64 r.tab.top, .int .i64 r.tab.half] 27)))).2.2
  cases h0 : decide (r.key = [])
  case' false => have e0 : r.key.isEmpty = false := by simpa using h0
  case' true => have e0 : r.key.isEmpty = true := by simpa using h0
  case false =>
    go_wp2_with fail
    go_ret
    exact ⟨by rw [E.out]; simp [h0], ADD.out⟩
  go_wp2_with fail
  refine ((in_calls r.sid 1 2147483647) _).mono ?_
  rintro e w1 ⟨rfl, a1⟩
  have B1 := Lib.hid (a1)
  obtain ⟨p1, q1, D1⟩ := A.out _ _ _ _ _ B1.out
  have ADD := Lib.hid D1
  have cp0 := p1 0
  have cp1 := p1 1
  have cp2 := p1 2
  have cp3 := p1 3
  have cp4 := p1 4
  have cq1 := q1 1
  have cq2 := q1 2
  have cq3 := q1 3
  have cq5 := q1 5
  have ct0 := q1 7
  have ct1 := q1 8
  have ct2 := q1 9
  have ct3 := q1 10
  have ct4 := q1 11
  have ct5 := q1 12
  simp at cp0 cp1 cp2 cp3 cp4 cq1 cq2 cq3 cq5 ct0 ct1 ct2 ct3 ct4 ct5

  clear p1 q1 D1 a1
  cases h1 : inn r.sid 1 2147483647
  case false =>
    go_wp2_with fail
    go_ret
    exact ⟨by rw [E.out]; simp [h1], ADD.out⟩
  go_wp2_with fail
  refine ((in_calls r.n 0 15) _).mono ?_
  rintro e w2 ⟨rfl, a2⟩
  have B2 := Lib.hid (Add.trans B1.out a2)
  obtain ⟨p2, q2, D2⟩ := A.out _ _ _ _ _ B2.out
  clear cp0 cp2 cp3 cp4 cq1 cq2 cq3 cq5 ct0 ct1 ct2 ct3 ct4 ct5
  clear ADD
  have ADD := Lib.hid D2
  have cp0 := p2 0
  clear cp1
  have cp1 := p2 1
  have cp2 := p2 2
  have cp3 := p2 3
  have cp4 := p2 4
  have cq1 := q2 1
  have cq2 := q2 2
  have cq3 := q2 3
  have cq5 := q2 5
  have ct0 := q2 7
  have ct1 := q2 8
  have ct2 := q2 9
  have ct3 := q2 10
  have ct4 := q2 11
  have ct5 := q2 12
  simp at cp0 cp1 cp2 cp3 cp4 cq1 cq2 cq3 cq5 ct0 ct1 ct2 ct3 ct4 ct5

  clear p2 q2 D2 a2
  cases h2 : inn r.n 0 15
  case false =>
    go_wp2_with fail
    go_ret
    exact ⟨by rw [E.out]; simp [h2], ADD.out⟩
  cases h3 : decide (r.colour = 0)
  case' false => have e3 : r.colour ≠ 0 := by simpa using h3
  case' true => have e3 : r.colour = 0 := by simpa using h3
  case false =>
    go_wp2_with fail
    go_ret
    exact ⟨by rw [E.out]; simp [h3], ADD.out⟩
  go_wp2_with fail
  all_goals
    go_ret
    refine ⟨?_, ADD.out⟩
    rw [E.out]
    simp [h0, h1, h2, h3, tbz]
    try omega
set_option maxRecDepth 100000 in
set_option maxHeartbeats 4000000 in
theorem plain_8 (r : Rc) (sv lv : Value) (w : World) (hk : r.key.length ≤ maxLen) : Calls Try.prog 21 #[shV (shp 8), rcV r sv lv] w (RetA w (.bool (plain (shp 8) r))) := by
  have E := Lib.hid (show plain (shp 8) r = (decide (r.key = []) && decide (r.sid = 0) && inn r.n 0 0 && decide (r.colour = 0) && tbOk r.tab) from rfl)
  have A := Lib.hid (fun (w1 : World) (c c2 : Array Value) (t t2 : TypeId) (a : Add ((w.alloc (.cells c t (0, 0))).alloc (.cells c2 t2 (0, 0))) w1) => box2_cells a)
  rw [show shV (shp 8) = .agg #[.bool false, .bool false, .bool false, .bool true, .int .i64 (-1), .int .i64 (-1), .int .i64 0] from rfl]
  unfold rcV
  go_enter Try.func21, Try.ntmps21
  have ADD := Lib.hid (A.out _ _ _ _ _ (Add.refl ((w.alloc (.cells #[.bool false, .bool false, .bool false, .bool true, .int .i64 (-1), .int .i64 (-1), .int .i64 0] 51)).alloc (.cells #[.int .i64 r.kind, str r.key, .int .i64 r.n, .int .i64 r.sid, sv, .int .i64 r.colour, lv, .int .i64 r.tab.hot, .int .i64 r.tab.warm, .int .i64 r.tab.gap, .int .i64 r.tab.add, .int .i64 r.tab.top, .int .i64 r.tab.half] 27)))).2.2
  cases h0 : decide (r.key = [])
  case' false => have e0 : r.key.isEmpty = false := by simpa using h0
  case' true => have e0 : r.key.isEmpty = true := by simpa using h0
  case false =>
    go_wp2_with fail
    go_ret
    exact ⟨by rw [E.out]; simp [h0], ADD.out⟩
  cases h1 : decide (r.sid = 0)
  case' false => have e1 : r.sid ≠ 0 := by simpa using h1
  case' true => have e1 : r.sid = 0 := by simpa using h1
  case false =>
    go_wp2_with fail
    go_ret
    exact ⟨by rw [E.out]; simp [h1], ADD.out⟩
  go_wp2_with fail
  refine ((in_calls r.n 0 0) _).mono ?_
  rintro e w1 ⟨rfl, a1⟩
  have B1 := Lib.hid (a1)
  obtain ⟨p1, q1, D1⟩ := A.out _ _ _ _ _ B1.out
  have ADD := Lib.hid D1
  have cp0 := p1 0
  have cp1 := p1 1
  have cp2 := p1 2
  have cp3 := p1 3
  have cp4 := p1 4
  have cq1 := q1 1
  have cq2 := q1 2
  have cq3 := q1 3
  have cq5 := q1 5
  have ct0 := q1 7
  have ct1 := q1 8
  have ct2 := q1 9
  have ct3 := q1 10
  have ct4 := q1 11
  have ct5 := q1 12
  simp at cp0 cp1 cp2 cp3 cp4 cq1 cq2 cq3 cq5 ct0 ct1 ct2 ct3 ct4 ct5

  clear p1 q1 D1 a1
  cases h2 : inn r.n 0 0
  case false =>
    go_wp2_with fail
    go_ret
    exact ⟨by rw [E.out]; simp [h2], ADD.out⟩
  cases h3 : decide (r.colour = 0)
  case' false => have e3 : r.colour ≠ 0 := by simpa using h3
  case' true => have e3 : r.colour = 0 := by simpa using h3
  case false =>
    go_wp2_with fail
    go_ret
    exact ⟨by rw [E.out]; simp [h3], ADD.out⟩
  go_wp2_with fail
  refine ((tableok_calls r.tab) _).mono ?_
  rintro e w2 ⟨rfl, a2⟩
  have B2 := Lib.hid (Add.trans B1.out a2)
  obtain ⟨p2, q2, D2⟩ := A.out _ _ _ _ _ B2.out
  clear cp0 cp2 cp3 cp4 cq1 cq2 cq3 cq5 ct0 ct1 ct2 ct3 ct4 ct5
  clear ADD
  have ADD := Lib.hid D2
  have cp0 := p2 0
  clear cp1
  have cp1 := p2 1
  have cp2 := p2 2
  have cp3 := p2 3
  have cp4 := p2 4
  have cq1 := q2 1
  have cq2 := q2 2
  have cq3 := q2 3
  have cq5 := q2 5
  have ct0 := q2 7
  have ct1 := q2 8
  have ct2 := q2 9
  have ct3 := q2 10
  have ct4 := q2 11
  have ct5 := q2 12
  simp at cp0 cp1 cp2 cp3 cp4 cq1 cq2 cq3 cq5 ct0 ct1 ct2 ct3 ct4 ct5

  clear p2 q2 D2 a2
  cases h4 : tbOk r.tab
  case false =>
    go_wp2_with fail
    go_ret
    exact ⟨by rw [E.out]; simp [h4], ADD.out⟩
  go_wp2_with fail
  go_ret
  exact ⟨by rw [E.out]; simp [h0, h1, h2, h3, h4], ADD.out⟩
theorem plain_calls (k : Nat) (h1 : 1 ≤ k) (h8 : k ≤ 8) (r : Rc) (sv lv : Value) (w : World) (hk : r.key.length ≤ maxLen) : Calls Try.prog 21 #[shV (shp k), rcV r sv lv] w (RetA w (.bool (plain (shp k) r))) := by
  obtain rfl | rfl | rfl | rfl | rfl | rfl | rfl | rfl : k = 1 ∨ k = 2 ∨ k = 3 ∨ k = 4 ∨ k = 5 ∨ k = 6 ∨ k = 7 ∨ k = 8 := by omega
  · exact plain_1 r sv lv w hk
  · exact plain_2 r sv lv w hk
  · exact plain_3 r sv lv w hk
  · exact plain_4 r sv lv w hk
  · exact plain_5 r sv lv w hk
  · exact plain_6 r sv lv w hk
  · exact plain_7 r sv lv w hk
  · exact plain_8 r sv lv w hk
end Go.Proofs.Ytnfkcmcchkcflaa.RcW
