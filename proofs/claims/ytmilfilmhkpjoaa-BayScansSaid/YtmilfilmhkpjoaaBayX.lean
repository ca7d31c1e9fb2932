/- Package bay, walked: Write, Read; law9's awake. No condition. -/
import Derived.Test.YtmilfilmhkpjoaaBayU
import Derived.Test.YtmilfilmhkpjoaaFrmZ
namespace Go.Proofs.Ytmilfilmhkpjoaa.BayW
open Go Go.RowKit Go.Proofs.Ytmilfilmhkpjoaa Go.Proofs.Ytmilfilmhkpjoaa.Sp Go.Proofs.Ytmilfilmhkpjoaa.Reg Go.Proofs.Ytmilfilmhkpjoaa.SlW Go.Proofs.Ytmilfilmhkpjoaa.Fus Go.Proofs.Ytmilfilmhkpjoaa.Rd Go.Proofs.Ytmilfilmhkpjoaa.DskW Go.Proofs.Ytmilfilmhkpjoaa.FrmW
section
variable {B : Nat} {w0 : World} {R : HP}
theorem fz_nil {w : World} (s : St B w0 w R) : St B w0 w (fz (.pointer none) none * R) := by
  show St B w0 w (pur (Value.pointer none = .pointer none) * R)
  rw [St.pu]
  exact ⟨rfl, s⟩
theorem fz_nil2 {X : HP} {w : World} (s : St B w0 w (X * R)) : St B w0 w (X * (fz (.pointer none) none * R)) := (fz_nil s).eq (by ac_rfl)
theorem fz_nil3 {X : HP} {w : World} (s : St B w0 w (X * (fz (.pointer none) none * R))) : St B w0 w (X * R) := (fz_none (s.eq (Q := fz (.pointer none) none * (X * R)) (by ac_rfl))).2
theorem write0 (D : Dk) (i : Int) (bs : List UInt8) (p : Value) (a : Option Addr) (n c : Nat) (w : World) (hpf : D.pend.length < 1000000) (hb : Reads B w0 R (.slice a n c) bs) (hn : n ≤ 4611686018427387904) (s : St B w0 w (dk p (.pointer none) D * R)) :
    Calls Try.prog 61 #[p, .int .i64 i, .slice a n c] w (RetS B w0 (dk p (.pointer none) (dWrite none D i bs).2.2 * R) (.int .i64 (dWrite none D i bs).1)) := by
  refine (write_calls none D i bs p none a n c w hpf hb hn (fz_nil2 s)).mono ?_
  rintro e w' ⟨rfl, s'⟩
  have h : (dWrite none D i bs).2.1 = none := by unfold dWrite; repeat (first | split | rfl)
  rw [h] at s'
  exact ⟨rfl, fz_nil3 s'⟩
set_option maxRecDepth 100000 in
set_option maxHeartbeats 4000000 in
theorem bwrite_calls (b g c : Nat) (p : Value) (us : List Bool) (D : Dk) (k id : Nat) (hk : k < us.length) (hu : us.getD k false = true) (hid : id < 4294967296) (a : Option Addr) (c2 : Nat) (data : List UInt8) (hd : data.length ≤ 64)
    (hpf : D.pend.length < 1000000) (w : World) (hb : Reads B w0 R (.slice a data.length c2) data) (s : St B w0 w (bay b p g c us * (dk p (.pointer none) D * R))) :
    Calls Try.prog 20 #[.pointer (some ⟨b, 0, none⟩), .int .i64 k, .int .i64 id, .slice a data.length c2] w (RetS B w0 (bay b p g c us * (dk p (.pointer none) (dWrite none D k (frm id data)).2.2 * R)) (.int .i64 (dWrite none D k (frm id data)).1)) := by
  have hbs := hb w _ (s.eq (Q := bay b p g c us * dk p (.pointer none) D * R) (by ac_rfl))
  have Q1 := Lib.hid (put_yes id hid a c2 data hd w hbs s)
  have hc : can us k true = true := by unfold can; rw [decide_eq_true (by omega), Int.toNat_natCast, hu]; rfl
  have Q2 := Lib.hid fun (g1 : Nat) (w1 : World) (s1 : St B w0 w1 (row 5 1 (.slice (some ⟨g1, 0, none⟩) 96 96) 96 (bvs (frm id data)) * (bay b p g c us * (dk p (.pointer none) D * R)))) => by
    have q := is_calls b g c p us k true w1 (s1.eq (Q := bay b p g c us * (row 5 1 (.slice (some ⟨g1, 0, none⟩) 96 96) 96 (bvs (frm id data)) * (dk p (.pointer none) D * R))) (by ac_rfl))
    rw [hc] at q
    simp only [uz, if_true] at q
    exact q
  have Q3 := Lib.hid fun (g1 : Nat) (w1 : World) (s1 : St B w0 w1 (bay b p g c us * (row 5 1 (.slice (some ⟨g1, 0, none⟩) 96 96) 96 (bvs (frm id data)) * (dk p (.pointer none) D * R)))) =>
    write0 D k (frm id data) p (some ⟨g1, 0, none⟩) 96 96 w1 hpf (R := bay b p g c us * (row 5 1 (.slice (some ⟨g1, 0, none⟩) 96 96) 96 (bvs (frm id data)) * R))
      (fun w H s => (s.eq (Q := row 5 1 (.slice (some ⟨g1, 0, none⟩) 96 96) 96 (bvs (frm id data)) * (H * (bay b p g c us * R))) (by ac_rfl)).bs) (by omega) (s1.eq (by ac_rfl))
  clear hbs hb s hc hu
  go_enter Try.func20, Try.ntmps20
  go_wp2_with fail
  refine Q1.out.mono ?_
  rintro e w1 ⟨g1, rfl, -, -, s1⟩
  have S := Lib.hid s1
  clear s1 Q1
  go_wp2_with fail
  refine (Q2.out g1 _ S.out).mono ?_
  rintro e w2 ⟨rfl, s2⟩
  have c0 := (bay_cells s2).1
  clear S Q2
  have S := Lib.hid s2
  clear s2
  go_wp2_with fail
  clear c0
  refine (Q3.out g1 _ S.out).mono ?_
  rintro e w3 ⟨rfl, s3⟩
  clear S Q3
  have S := Lib.hid (s3.eq (Q := row 5 1 (.slice (some ⟨g1, 0, none⟩) 96 96) 96 (bvs (frm id data)) * (bay b p g c us * (dk p (.pointer none) (dWrite none D k (frm id data)).2.2 * R))) (by ac_rfl)).right
  clear s3
  go_wp2_with fail
  go_ret
  exact ⟨rfl, S.out⟩
/-- A chunk that is read. -/
def RdP (B : Nat) (w0 : World) (H : HP) (data : List UInt8) (e : Ending) (w' : World) : Prop := ∃ a c, e = .returned (.tuple #[.slice a data.length c, .int .i64 0]) ∧ St B w0 w' (row 5 1 (.slice a data.length c) data.length (bvs data) * H)
set_option maxRecDepth 100000 in
set_option maxHeartbeats 4000000 in
theorem bread_hit (b g c : Nat) (p fv : Value) (us : List Bool) (D : Dk) (k id : Nat) (hid : id < 4294967296) (data : List UInt8) (hd : data.length ≤ 64) (he : dErr D k = 0) (hr : dRead D k = frm id data)
    (w : World) (s : St B w0 w (bay b p g c us * (dk p fv D * R))) :
    Calls Try.prog 21 #[.pointer (some ⟨b, 0, none⟩), .int .i64 k, .int .i64 id] w (RdP B w0 (bay b p g c us * (dk p fv D * R)) data) := by
  have c0 := (bay_cells s).1
  have q := read_calls D p fv k w (s.eq (Q := dk p fv D * (bay b p g c us * R)) (by ac_rfl))
  rw [he, hr] at q
  have Q := Lib.hid q
  clear q s
  go_enter Try.func21, Try.ntmps21
  go_wp2_with fail
  clear c0
  refine Q.out.mono ?_
  rintro e w1 ⟨ar, cr, rfl, s1⟩
  rw [frm_len id data hd] at s1 ⊢
  have hbs := s1.bs
  obtain ⟨gr, off, rfl⟩ := hbs.head (by rw [frm_len id data hd]; omega)
  have q := holds_st gr off cr id hid data hd w1 (fun w H s => (s.eq (Q := row 5 1 (.slice (some ⟨gr, off, none⟩) 96 cr) 96 (bvs (frm id data)) * (H * (dk p fv D * (bay b p g c us * R)))) (by ac_rfl)).bs) s1
  have Q2 := Lib.hid q
  clear s1 q hbs Q he hr
  go_wp2_with fail
  refine Q2.out.mono ?_
  rintro e w2 ⟨a2, c2, rfl, s2⟩
  have S2 := Lib.hid ((s2.eq (Q := row 5 1 (.slice (some ⟨gr, off, none⟩) 96 cr) 96 (bvs (frm id data)) * (row 5 1 (.slice a2 data.length c2) data.length (bvs data) * (bay b p g c us * (dk p fv D * R)))) (by ac_rfl)).right)
  clear Q2 s2
  go_wp2_with fail
  go_ret2
  exact ⟨_, _, rfl, S2.out⟩
set_option maxRecDepth 100000 in
set_option maxHeartbeats 4000000 in
theorem bread_other (b g c : Nat) (p fv : Value) (us : List Bool) (D : Dk) (k id : Nat) (id2 : Int) (hne : id2 ≠ id) (hid : id < 4294967296) (data : List UInt8) (hd : data.length ≤ 64) (he : dErr D k = 0) (hr : dRead D k = frm id data)
    (w : World) (s : St B w0 w (bay b p g c us * (dk p fv D * R))) :
    Calls Try.prog 21 #[.pointer (some ⟨b, 0, none⟩), .int .i64 k, .int .i64 id2] w (RetS B w0 (bay b p g c us * (dk p fv D * R)) (.tuple #[.slice none 0 0, .int .i64 6])) := by
  have c0 := (bay_cells s).1
  have q := read_calls D p fv k w (s.eq (Q := dk p fv D * (bay b p g c us * R)) (by ac_rfl))
  rw [he, hr] at q
  have Q := Lib.hid q
  have HN := Lib.hid hne
  clear q s hne
  go_enter Try.func21, Try.ntmps21
  go_wp2_with fail
  clear c0
  refine Q.out.mono ?_
  rintro e w1 ⟨ar, cr, rfl, s1⟩
  rw [frm_len id data hd] at s1 ⊢
  have hbs := s1.bs
  obtain ⟨gr, off, rfl⟩ := hbs.head (by rw [frm_len id data hd]; omega)
  have q := holds_other gr off cr id id2 HN.out hid data hd w1 hbs
  have Q2 := Lib.hid q
  have S := Lib.hid s1
  clear s1 q hbs Q he hr
  go_wp2_with fail
  refine Q2.out.mono ?_
  rintro e w2 ⟨rfl, h2⟩
  have S2 := Lib.hid (((S.out.right).keep h2).eq (Q := bay b p g c us * (dk p fv D * R)) (by ac_rfl))
  clear S Q2 h2
  go_wp2_with fail
  go_ret2
  exact ⟨rfl, S2.out⟩
set_option maxRecDepth 100000 in
set_option maxHeartbeats 8000000 in
theorem awake_calls (w : World) (s : St B w0 w R) : Calls Try.prog 19 #[] w (RetS B w0 R (.bool true)) := by
  have S := Lib.hid s
  clear s
  go_enter Try.func19, Try.ntmps19
  go_wp2_with fail
  refine (DskW.new_calls 3 none _ S.out).mono ?_
  rintro e w1 ⟨pd, rfl, s⟩
  clear S
  have hD : Dk.new 3 = ⟨List.replicate 3 blk0, [], false⟩ := rfl
  rw [hD] at s
  have S := Lib.hid s
  clear s hD
  go_wp2_with fail
  refine (new_calls ⟨List.replicate 3 blk0, [], false⟩ pd _ (by simp) _ S.out).mono ?_
  rintro e w2 ⟨b, g, c, rfl, s⟩
  rw [List.length_replicate] at s
  clear S
  have S := Lib.hid s
  clear s
  go_wp2_with fail
  refine (take_calls b g c pd _ (by simp) _ S.out).mono ?_
  unfold TkP
  rw [show tk (List.replicate 3 false) = some 0 from rfl]
  rintro e w3 ⟨rfl, s⟩
  clear S
  have s1 := s.alloc (.cells #[.int .u8 1] 5)
  have S := Lib.hid (s1.eq (Q := bay b pd g c (List.set (List.replicate 3 false) 0 true) * (dk pd (.pointer none) ⟨List.replicate 3 blk0, [], false⟩ * (pts w3.heap.size (.cells #[.int .u8 1] 5) * R))) (by ac_rfl))
  clear s s1
  go_wp2_with fail
  refine (bwrite_calls b g c pd (List.set (List.replicate 3 false) 0 true) ⟨List.replicate 3 blk0, [], false⟩ 0 7 (by simp) rfl (by omega) (some ⟨w3.heap.size, 0, none⟩) 1 [1] (by simp) (by simp) _ (fun w H s => reads_lit rfl rfl (by simp [maxLen]) w (H * R) (s.eq (by ac_rfl))) S.out).mono ?_
  have hW : dWrite none ⟨List.replicate 3 blk0, [], false⟩ ((0 : Nat) : Int) (frm 7 [1]) = (0, none, ⟨List.replicate 3 blk0, [(0, frm 7 [1])], false⟩) := by
    unfold dWrite
    rw [if_neg (by rw [frm_len 7 [1] (by simp)]; simp), if_neg (by simp), if_neg (by simp [fdead])]
    rfl
  rw [hW]
  clear hW
  rintro e w4 ⟨rfl, s⟩
  clear S
  have S := Lib.hid s
  clear s
  have he : dErr ⟨List.replicate 3 blk0, [(0, frm 7 [1])], false⟩ ((0 : Nat) : Int) = 0 := by unfold dErr; simp
  have hr : dRead ⟨List.replicate 3 blk0, [(0, frm 7 [1])], false⟩ ((0 : Nat) : Int) = frm 7 [1] := by unfold dRead nowB; simp
  have HE := Lib.hid he
  have HR := Lib.hid hr
  clear he hr
  go_wp2_with fail
  refine (bread_hit b g c pd _ _ _ 0 7 (by omega) [1] (by simp) HE.out HR.out _ S.out).mono ?_
  rintro e w5 ⟨a5, c5, rfl, s⟩
  clear S
  have S := Lib.hid (s.eq (Q := bay b pd g c (List.set (List.replicate 3 false) 0 true) * (dk pd (.pointer none) ⟨List.replicate 3 blk0, [(0, frm 7 [1])], false⟩ * (row 5 1 (.slice a5 1 c5) 1 (bvs [1]) * (pts w3.heap.size (.cells #[.int .u8 1] 5) * R)))) (by show row _ _ _ _ _ * _ = _; ac_rfl))
  clear s
  go_wp2_with fail
  refine (bread_other b g c pd _ _ _ 0 7 8 (by omega) (by omega) [1] (by simp) HE.out HR.out _ S.out).mono ?_
  rintro e w6 ⟨rfl, s⟩
  clear S
  have hcv : (convert 37 9 (.slice a5 1 c5)).run Try.prog w6 = .ok (.string ⟨#[1]⟩) w6 := run_str (P := Try.prog) Try.underlying37 Try.underlying5 Try.underlying9 (s.eq (Q := row 5 1 (.slice a5 1 c5) 1 (bvs [1]) * (bay b pd g c (List.set (List.replicate 3 false) 0 true) * (dk pd (.pointer none) ⟨List.replicate 3 blk0, [(0, frm 7 [1])], false⟩ * (pts w3.heap.size (.cells #[.int .u8 1] 5) * R)))) (by ac_rfl)).bs
  have S := Lib.hid s
  clear s
  go_wp2_with fail
  refine (free_calls b g c pd _ (by simp) _ S.out).mono ?_
  rw [show ((List.set (List.replicate 3 false) 0 true).length : Int) - ((usd (List.set (List.replicate 3 false) 0 true) (List.set (List.replicate 3 false) 0 true).length).length : Int) = 2 from by decide]
  rintro e w7 ⟨rfl, s⟩
  have S9 := Lib.hid (s.right.right.right.right)
  clear S s
  go_wp2_with fail
  go_ret
  exact ⟨rfl, S9.out⟩
end
end Go.Proofs.Ytmilfilmhkpjoaa.BayW
