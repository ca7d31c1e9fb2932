/- DiskPlays: the calls, and the two disks and their Fuses beside each other. No condition. -/
import Derived.Test.YteikpbangjpilaaDskR6
import Derived.Test.YteikpbangjpilaaSlo
set_option linter.unusedSimpArgs false
set_option linter.unusedVariables false
namespace Go.Proofs.Yteikpbangjpilaa.DskL
open Go Go.RowKit Go.Proofs.Yteikpbangjpilaa Go.Proofs.Yteikpbangjpilaa.Sp Go.Proofs.Yteikpbangjpilaa.Reg Go.Proofs.Yteikpbangjpilaa.SlW Go.Proofs.Yteikpbangjpilaa.Fus Go.Proofs.Yteikpbangjpilaa.TapR Go.Proofs.Yteikpbangjpilaa.DskN Go.Proofs.Yteikpbangjpilaa.Rd Go.Proofs.Yteikpbangjpilaa.DskW Go.Proofs.Yteikpbangjpilaa.DskR
/-- A call. -/
structure Op where
  kind : Int
  slot : Int
  pos : Int
  n : Int
  fill : UInt8
  b : List UInt8
/-- It has room in an int. -/
def sm (n : Int) : Prop := (Lit.int .i64 n).wf = true
theorem sm.le {n : Int} (h : sm n) : n ≤ 9223372036854775807 := by unfold sm at h; simpa [Lit.wf, IntKind.min, IntKind.max, IntKind.signed, IntKind.bits] using (by simpa [Lit.wf, IntKind.min, IntKind.max, IntKind.signed, IntKind.bits] using h : _ ∧ _).2
def ROp (w : World) (cs : List Value) (o : Op) : Prop := ∃ v, cs = [.int .i64 o.kind, .int .i64 o.slot, .int .i64 o.pos, .int .i64 o.n, bv o.fill, v] ∧ BS w v o.b ∧ sm o.pos ∧ sm o.n
open Go.ChangeShapes Go.WideShapes in
theorem open_op {H : Type} {enc : TypeId × Value → H} {W : World} {base : Nat} {held : Bool} (fuel : Nat) (cs : List Value) (x : DataW H × List MemPlace) (hl : cs.length = 6)
    (h : DataW.trod enc Try.prog W base (fun _ => true) held fuel 77 cs = some x) : ∃ y, ROp W cs y := by
  obtain ⟨-, hf⟩ := open_fields Try.underlying77 (L := [(3, 0), (3, 1), (3, 2), (3, 3), (5, 4), (25, 5)]) (by kernel_rfl) h
  match cs, hl with
  | [u0, u1, u2, u3, u4, u5], _ =>
    obtain ⟨n0, y0, h0⟩ := hf 0 _ _ rfl
    obtain ⟨n1, y1, h1⟩ := hf 1 _ _ rfl
    obtain ⟨n2, y2, h2⟩ := hf 2 _ _ rfl
    obtain ⟨n3, y3, h3⟩ := hf 3 _ _ rfl
    obtain ⟨n4, y4, h4⟩ := hf 4 _ _ rfl
    obtain ⟨n5, y5, h5⟩ := hf 5 _ _ rfl
    rw [show Try.prog.cellsOf 3 = 1 by kernel_rfl] at h0 h1 h2 h3
    rw [show Try.prog.cellsOf 5 = 1 by kernel_rfl] at h4
    rw [show Try.prog.cellsOf 25 = 1 by kernel_rfl] at h5
    obtain ⟨m0, e0, -, g0⟩ := DataW.trod_int Try.underlying3 h0
    obtain ⟨m1, e1, -, g1⟩ := DataW.trod_int Try.underlying3 h1
    obtain ⟨m2, e2, -, g2⟩ := DataW.trod_int Try.underlying3 h2
    obtain ⟨m3, e3, -, g3⟩ := DataW.trod_int Try.underlying3 h3
    obtain ⟨m4, e4, -, g4⟩ := DataW.trod_int Try.underlying5 h4
    obtain ⟨v, bs, e5, g5⟩ := open_bytes Try.underlying25 Try.underlying5 (by kernel_rfl) h5
    obtain ⟨c4, rfl⟩ := byte_of g4
    simp at e0 e1 e2 e3 e4 e5
    subst e0 e1 e2 e3 e4 e5
    exact ⟨⟨m0, m1, m2, m3, c4, bs⟩, _, rfl, g5, g2, g3⟩
/-! ### how many writes are pending -/
section
variable {D : Dk} {M : Rk} {n : Nat}
theorem pw_write (h : D.pend.length ≤ n) (F : Option Fu) (i : Int) (bs : List UInt8) : (dWrite F D i bs).2.2.pend.length ≤ n + 1 := by
  unfold dWrite
  split
  · show D.pend.length ≤ _; omega
  · split
    · show D.pend.length ≤ _; omega
    · split
      · show D.pend.length ≤ _; omega
      · show (D.pend ++ [_]).length ≤ _; rw [List.length_append, List.length_singleton]; omega
theorem pw_sync (h : D.pend.length ≤ n) (F : Option Fu) : (dSync F D).2.pend.length ≤ n + 1 := by
  unfold dSync
  split
  · show D.pend.length ≤ _; omega
  · split
    · show D.pend.length ≤ _; omega
    · exact Nat.zero_le _
theorem pw_rot (h : D.pend.length ≤ n) (i k : Int) (x : UInt8) : (dRot D i k x).2.pend.length ≤ n + 1 := by
  unfold dRot
  split
  · show (setNow D _ _).pend.length ≤ _
    unfold setNow
    split
    · show (D.pend.set _ _).length ≤ _; rw [List.length_set]; omega
    · show D.pend.length ≤ _; omega
  · show D.pend.length ≤ _; omega
theorem mw_write (h : M.wait.length ≤ n) (F : Fu) (i : Int) (bs : List UInt8) : (rkWrite F M i bs).2.2.wait.length ≤ n + 1 := by
  unfold rkWrite
  split
  · show M.wait.length ≤ _; omega
  · split
    · show M.wait.length ≤ _; omega
    · split
      · show M.wait.length ≤ _; omega
      · show (M.wait ++ [_]).length ≤ _; rw [List.length_append, List.length_singleton]; omega
theorem mw_sync (h : M.wait.length ≤ n) (F : Fu) : (rkSync F M).2.wait.length ≤ n + 1 := by
  unfold rkSync
  split
  · show M.wait.length ≤ _; omega
  · split
    · show M.wait.length ≤ _; omega
    · exact Nat.zero_le _
theorem setLast_len (slot : Nat) (b : List UInt8) (l : List Wt) : ∀ q, (setLast slot b l q).length = l.length
  | 0 => rfl
  | q + 1 => by
    unfold setLast
    split
    · rw [List.length_set]
    · exact setLast_len slot b l q
theorem mw_rot (h : M.wait.length ≤ n) (i k : Int) (x : UInt8) : (rkRot M i k x).2.wait.length ≤ n + 1 := by
  unfold rkRot
  split
  · show (setLast _ _ _ _).length ≤ _; rw [setLast_len]; omega
  · show M.wait.length ≤ _; omega
end
theorem sim_pend {D : Dk} {M : Rk} (h : Sim D M) (hl : D.gone = false) : M.wait.length = D.pend.length := by rw [h.wait hl, waits_len]
theorem sim_slot {D : Dk} {M : Rk} (h : Sim D M) (hl : D.gone = false) (i : Nat) (hi : i < M.slots.length) : dErr D (i : Int) = 0 ∧ dRead D (i : Int) = M.slots[i] := by
  have hi' : i < D.lasts.length := by rw [← h.len]; exact hi
  have q := h.slots hl i hi'
  rw [List.getD_eq_getElem?_getD, List.getElem?_eq_getElem hi, Option.getD_some] at q
  unfold dErr dRead
  rw [if_pos ⟨by omega, by omega⟩, if_neg (by simp [hl]), if_pos ⟨⟨by omega, by omega⟩, hl⟩, Int.toNat_natCast, q]
  exact ⟨rfl, rfl⟩
/-! ### the two disks -/
/-- The two disks and the two Fuses. -/
def Hsd (db fb rb rfb : Nat) (D : Dk) (F : Fu) (M : Rk) (F2 : Fu) (R : HP) : HP :=
  dk (.pointer (some ⟨db, 0, none⟩)) (.pointer (some ⟨fb, 0, none⟩)) D * (fz (.pointer (some ⟨fb, 0, none⟩)) (some F) * (rdk rb (.pointer (some ⟨rfb, 0, none⟩)) M * (rfz rfb F2 * R)))
/-- The document's disk lies open. -/
def Hso (db fb rb rfb : Nat) (sv wv : Value) (D : Dk) (F : Fu) (M : Rk) (F2 : Fu) (R : HP) : HP :=
  dk (.pointer (some ⟨db, 0, none⟩)) (.pointer (some ⟨fb, 0, none⟩)) D * (fz (.pointer (some ⟨fb, 0, none⟩)) (some F) * (rdkO rb (.pointer (some ⟨rfb, 0, none⟩)) sv wv M * (rfz rfb F2 * R)))
section
variable {B : Nat} {w0 w : World} {db fb rb rfb : Nat} {D : Dk} {M : Rk} {F F2 : Fu} {R X : HP} {sv wv : Value}
theorem hsd_x (s : St B w0 w (X * Hsd db fb rb rfb D F M F2 R)) : St B w0 w (Hsd db fb rb rfb D F M F2 (X * R)) := s.eq (by unfold Hsd; ac_rfl)
theorem hsd_y (s : St B w0 w (Hsd db fb rb rfb D F M F2 (X * R))) : St B w0 w (X * Hsd db fb rb rfb D F M F2 R) := s.eq (by unfold Hsd; ac_rfl)
theorem hso_x (s : St B w0 w (X * Hso db fb rb rfb sv wv D F M F2 R)) : St B w0 w (Hso db fb rb rfb sv wv D F M F2 (X * R)) := s.eq (by unfold Hso; ac_rfl)
theorem hso_y (s : St B w0 w (Hso db fb rb rfb sv wv D F M F2 (X * R))) : St B w0 w (X * Hso db fb rb rfb sv wv D F M F2 R) := s.eq (by unfold Hso; ac_rfl)
theorem hsd_g {g : Nat} {C : Array Value} {t : TypeId} {f : Nat × Nat} (s : St B w0 w (Hsd db fb rb rfb D F M F2 (pts g (.cells C t f) * R))) (i : Nat) : w.cell? ⟨g, i, none⟩ = C[i]? := (hsd_y s).cell i
theorem hsd_d (s : St B w0 w (Hsd db fb rb rfb D F M F2 R)) : D.ok ∧ F.left ≤ 9223372036854775807 := by
  obtain ⟨_, _, _, _, _, _, hok, _⟩ := dk_open s
  have s2 : St B w0 w (fz (.pointer (some ⟨fb, 0, none⟩)) (some F) * (dk (.pointer (some ⟨db, 0, none⟩)) (.pointer (some ⟨fb, 0, none⟩)) D * (rdk rb (.pointer (some ⟨rfb, 0, none⟩)) M * (rfz rfb F2 * R)))) := s.eq (by unfold Hsd; ac_rfl)
  obtain ⟨_, _, hf, _⟩ := fz_some s2
  exact ⟨hok, hf⟩
/-- The document's disk ahead. -/
theorem hsd_r (s : St B w0 w (Hsd db fb rb rfb D F M F2 R)) : St B w0 w (rdk rb (.pointer (some ⟨rfb, 0, none⟩)) M * (rfz rfb F2 * (dk (.pointer (some ⟨db, 0, none⟩)) (.pointer (some ⟨fb, 0, none⟩)) D * (fz (.pointer (some ⟨fb, 0, none⟩)) (some F) * R)))) := s.eq (by unfold Hsd; ac_rfl)
theorem hsd_back (s : St B w0 w (rdk rb (.pointer (some ⟨rfb, 0, none⟩)) M * (rfz rfb F2 * (dk (.pointer (some ⟨db, 0, none⟩)) (.pointer (some ⟨fb, 0, none⟩)) D * (fz (.pointer (some ⟨fb, 0, none⟩)) (some F) * R))))) : St B w0 w (Hsd db fb rb rfb D F M F2 R) := s.eq (by unfold Hsd; ac_rfl)
theorem hsd_open (s : St B w0 w (Hsd db fb rb rfb D F M F2 R)) : ∃ a1 c1 a2 c2, M.ok ∧ M.slots.length ≤ c1 ∧ c1 ≤ maxLen ∧ M.wait.length ≤ c2 ∧ c2 ≤ maxLen ∧ St B w0 w (Hso db fb rb rfb (.slice a1 M.slots.length c1) (.slice a2 M.wait.length c2) D F M F2 R) := by
  obtain ⟨a1, c1, a2, c2, h0, h1, h2, h3, h4, t⟩ := rdk_open (hsd_r s)
  exact ⟨a1, c1, a2, c2, h0, h1, h2, h3, h4, t.eq (by unfold Hso; ac_rfl)⟩
theorem hso_shut (h : M.ok) (s : St B w0 w (Hso db fb rb rfb sv wv D F M F2 R)) : St B w0 w (Hsd db fb rb rfb D F M F2 R) :=
  hsd_back (rdk_mk h (s.eq (Q := rdkO rb (.pointer (some ⟨rfb, 0, none⟩)) sv wv M * (rfz rfb F2 * (dk (.pointer (some ⟨db, 0, none⟩)) (.pointer (some ⟨fb, 0, none⟩)) D * (fz (.pointer (some ⟨fb, 0, none⟩)) (some F) * R)))) (by unfold Hso; ac_rfl)))
theorem hso_r (s : St B w0 w (Hso db fb rb rfb sv wv D F M F2 R)) : St B w0 w (rdkO rb (.pointer (some ⟨rfb, 0, none⟩)) sv wv M * (rfz rfb F2 * (dk (.pointer (some ⟨db, 0, none⟩)) (.pointer (some ⟨fb, 0, none⟩)) D * (fz (.pointer (some ⟨fb, 0, none⟩)) (some F) * R)))) := s.eq (by unfold Hso; ac_rfl)
theorem hso_cells (s : St B w0 w (Hso db fb rb rfb sv wv D F M F2 R)) : w.cell? ⟨rb, 0, none⟩ = some sv ∧ w.cell? ⟨rb, 1, none⟩ = some (.bool M.live) ∧ w.cell? ⟨rb, 2, none⟩ = some wv :=
  ⟨(rdkO_d (hso_r s)).cell 0, (rdkO_d (hso_r s)).cell 1, (rdkO_d (hso_r s)).cell 2⟩
theorem hso_live (w : World) (s : St B w0 w (Hso db fb rb rfb sv wv D F M F2 R)) : Calls Try.prog 46 #[.pointer (some ⟨db, 0, none⟩)] w (RetS B w0 (Hso db fb rb rfb sv wv D F M F2 R) (.bool (!D.gone))) := live_calls D _ _ w s
theorem hso_slots (w : World) (s : St B w0 w (Hso db fb rb rfb sv wv D F M F2 R)) : Calls Try.prog 49 #[.pointer (some ⟨db, 0, none⟩)] w (RetS B w0 (Hso db fb rb rfb sv wv D F M F2 R) (.int .i64 D.lasts.length)) := slots_calls D _ _ w s
theorem hso_pending (w : World) (s : St B w0 w (Hso db fb rb rfb sv wv D F M F2 R)) : Calls Try.prog 40 #[.pointer (some ⟨db, 0, none⟩)] w (RetS B w0 (Hso db fb rb rfb sv wv D F M F2 R) (.int .i64 D.pend.length)) := pending_calls D _ _ w s
theorem hso_dead (w : World) (s : St B w0 w (Hso db fb rb rfb sv wv D F M F2 R)) : Calls Try.prog 43 #[.pointer (some ⟨fb, 0, none⟩)] w (RetS B w0 (Hso db fb rb rfb sv wv D F M F2 R) (.bool (fdead (some F)))) :=
  (dead_calls (some F) _ w (s.eq (Q := fz (.pointer (some ⟨fb, 0, none⟩)) (some F) * (dk (.pointer (some ⟨db, 0, none⟩)) (.pointer (some ⟨fb, 0, none⟩)) D * (rdkO rb (.pointer (some ⟨rfb, 0, none⟩)) sv wv M * (rfz rfb F2 * R)))) (by unfold Hso; ac_rfl))).mono fun _ _ ⟨h1, h2⟩ => ⟨h1, h2.eq (by unfold Hso; ac_rfl)⟩
theorem hso_rdead (w : World) (s : St B w0 w (Hso db fb rb rfb sv wv D F M F2 R)) : Calls Try.prog 56 #[.pointer (some ⟨rfb, 0, none⟩)] w (RetS B w0 (Hso db fb rb rfb sv wv D F M F2 R) (.bool (fdead (some F2)))) :=
  (rdead_calls F2 rfb w (s.eq (Q := rfz rfb F2 * (dk (.pointer (some ⟨db, 0, none⟩)) (.pointer (some ⟨fb, 0, none⟩)) D * (rdkO rb (.pointer (some ⟨rfb, 0, none⟩)) sv wv M * (fz (.pointer (some ⟨fb, 0, none⟩)) (some F) * R)))) (by unfold Hso; ac_rfl))).mono fun _ _ ⟨h1, h2⟩ => ⟨h1, h2.eq (by unfold Hso; ac_rfl)⟩
theorem hso_slot {a1 : Option Addr} {c1 : Nat} (s : St B w0 w (Hso db fb rb rfb (.slice a1 M.slots.length c1) wv D F M F2 R)) (i : Nat) (hi : i < M.slots.length) : ∃ b, a1 = some ⟨b, 0, none⟩ ∧ w.cell? ⟨b, i, none⟩ = some (str M.slots[i]) := by
  obtain ⟨b, c', hv, -, -, -, hcl⟩ := (rdkO_s (hso_r s)).rowCells (by omega)
  cases hv
  refine ⟨b, rfl, (hcl i (by omega)).trans ?_⟩
  rw [List.getElem?_map, List.getElem?_eq_getElem hi]
  rfl
theorem hsd_write (w : World) {bs : List UInt8} {i e1 : Int} {D1 : Dk} {F1 : Fu} {a : Option Addr} {n c : Nat} (ht : dWrite (some F) D i bs = (e1, some F1, D1)) (hp : D.pend.length < 1000000) (hb : Reads B w0 R (.slice a n c) bs) (hn : n ≤ 4611686018427387904) (s : St B w0 w (Hsd db fb rb rfb D F M F2 R)) :
    Calls Try.prog 34 #[.pointer (some ⟨db, 0, none⟩), .int .i64 i, .slice a n c] w (RetS B w0 (Hsd db fb rb rfb D1 F1 M F2 R) (.int .i64 e1)) := by
  have q := write_calls (some F) D i bs (.pointer (some ⟨db, 0, none⟩)) (some ⟨fb, 0, none⟩) a n c w hp (reads_left _ (reads_left _ hb)) hn s
  rw [ht] at q
  exact q
theorem hsd_rwrite (w : World) {bs : List UInt8} {i e1 : Int} {M1 : Rk} {F1 : Fu} (ht : rkWrite F2 M i bs = (e1, F1, M1)) (hl : F2.left ≤ 9223372036854775807) (hw : M.wait.length < 1000000) (s : St B w0 w (Hsd db fb rb rfb D F M F2 R)) :
    Calls Try.prog 50 #[.pointer (some ⟨rb, 0, none⟩), .int .i64 i, str bs] w (RetS B w0 (Hsd db fb rb rfb D F M1 F1 R) (.int .i64 e1)) := by
  have q := rdwrite_calls F2 rfb i bs hl hw w (hsd_r s)
  rw [ht] at q
  exact q.mono fun _ _ ⟨h1, h2⟩ => ⟨h1, hsd_back h2⟩
theorem hsd_rread (w : World) (i : Int) (s : St B w0 w (Hsd db fb rb rfb D F M F2 R)) :
    Calls Try.prog 51 #[.pointer (some ⟨rb, 0, none⟩), .int .i64 i] w (RetS B w0 (Hsd db fb rb rfb D F M F2 R) (.tuple #[str (rkRead M i), .int .i64 (rkErr M i)])) :=
  (rread_calls i w (hsd_r s)).mono fun _ _ ⟨h1, h2⟩ => ⟨h1, hsd_back h2⟩
theorem hsd_sync (w : World) (s : St B w0 w (Hsd db fb rb rfb D F M F2 R)) :
    Calls Try.prog 36 #[.pointer (some ⟨db, 0, none⟩)] w (RetS B w0 (Hsd db fb rb rfb (dSync (some F) D).2 F M F2 R) (.int .i64 (dSync (some F) D).1)) :=
  sync_calls (some F) D _ (some ⟨fb, 0, none⟩) w s
theorem hsd_rsync (w : World) (s : St B w0 w (Hsd db fb rb rfb D F M F2 R)) :
    Calls Try.prog 52 #[.pointer (some ⟨rb, 0, none⟩)] w (RetS B w0 (Hsd db fb rb rfb D F (rkSync F2 M).2 F2 R) (.int .i64 (rkSync F2 M).1)) :=
  (rdsync_calls F2 rfb w (hsd_r s)).mono fun _ _ ⟨h1, h2⟩ => ⟨h1, hsd_back h2⟩
theorem hsd_replace (w : World) (s : St B w0 w (Hsd db fb rb rfb D F M F2 R)) :
    Calls Try.prog 47 #[.pointer (some ⟨db, 0, none⟩)] w (RetS B w0 (Hsd db fb rb rfb ⟨List.replicate D.lasts.length blk0, [], false⟩ F M F2 R) (.tuple #[])) :=
  replace_calls D _ (some ⟨fb, 0, none⟩) w s
theorem hsd_rreplace (w : World) (s : St B w0 w (Hsd db fb rb rfb D F M F2 R)) :
    Calls Try.prog 53 #[.pointer (some ⟨rb, 0, none⟩)] w (RetS B w0 (Hsd db fb rb rfb D F (rkReplace M) F2 R) (.tuple #[])) :=
  (rdreplace_calls w (hsd_r s)).mono fun _ _ ⟨h1, h2⟩ => ⟨h1, hsd_back h2⟩
theorem hsd_rot (w : World) (i k : Int) (x : UInt8) (s : St B w0 w (Hsd db fb rb rfb D F M F2 R)) :
    Calls Try.prog 44 #[.pointer (some ⟨db, 0, none⟩), .int .i64 i, .int .i64 k, bv x] w (RetS B w0 (Hsd db fb rb rfb (dRot D i k x).2 F M F2 R) (.bool (dRot D i k x).1)) :=
  rot_calls D _ _ i k x w s
theorem hsd_rrot (w : World) (i k : Int) (x : UInt8) (s : St B w0 w (Hsd db fb rb rfb D F M F2 R)) :
    Calls Try.prog 54 #[.pointer (some ⟨rb, 0, none⟩), .int .i64 i, .int .i64 k, bv x] w (RetS B w0 (Hsd db fb rb rfb D F (rkRot M i k x).2 F2 R) (.bool (rkRot M i k x).1)) :=
  (rdrot_calls i k x w (hsd_r s)).mono fun _ _ ⟨h1, h2⟩ => ⟨h1, hsd_back h2⟩
theorem hsd_crash (w : World) (k t : Int) (hk : sm k) (ht : sm t) (s : St B w0 w (Hsd db fb rb rfb D F M F2 R)) :
    Calls Try.prog 37 #[.pointer (some ⟨db, 0, none⟩), .int .i64 k, .int .i64 t] w (RetS B w0 (Hsd db fb rb rfb (dCrash D k t) F M F2 R) (.tuple #[])) :=
  crash_calls D _ _ k t hk.le ht.le w s
theorem hsd_rcrash (w : World) (k t : Int) (hk : sm k) (ht : sm t) (s : St B w0 w (Hsd db fb rb rfb D F M F2 R)) :
    Calls Try.prog 55 #[.pointer (some ⟨rb, 0, none⟩), .int .i64 k, .int .i64 t] w (RetS B w0 (Hsd db fb rb rfb D F (rkCrash M k t) F2 R) (.tuple #[])) :=
  (rdcrash_calls k t hk.le ht.le w (hsd_r s)).mono fun _ _ ⟨h1, h2⟩ => ⟨h1, hsd_back h2⟩
theorem hsd_set (w : World) (k : Int) (hk : sm k) (s : St B w0 w (Hsd db fb rb rfb D F M F2 R)) :
    Calls Try.prog 31 #[.pointer (some ⟨fb, 0, none⟩), .int .i64 k] w (RetS B w0 (Hsd db fb rb rfb D (Fu.new k) M F2 R) (.tuple #[])) :=
  (set_calls F (.pointer (some ⟨fb, 0, none⟩)) k w hk.le (s.eq (Q := fz (.pointer (some ⟨fb, 0, none⟩)) (some F) * (dk (.pointer (some ⟨db, 0, none⟩)) (.pointer (some ⟨fb, 0, none⟩)) D * (rdk rb (.pointer (some ⟨rfb, 0, none⟩)) M * (rfz rfb F2 * R)))) (by unfold Hsd; ac_rfl))).mono fun _ _ ⟨h1, h2⟩ => ⟨h1, h2.eq (by unfold Hsd; ac_rfl)⟩
theorem hsd_rfz (s : St B w0 w (Hsd db fb rb rfb D F M F2 R)) : St B w0 w (pts rfb (.cells #[.bool (!F2.bound), .int .i64 F2.left] 51 (0, 0)) * (dk (.pointer (some ⟨db, 0, none⟩)) (.pointer (some ⟨fb, 0, none⟩)) D * (fz (.pointer (some ⟨fb, 0, none⟩)) (some F) * (rdk rb (.pointer (some ⟨rfb, 0, none⟩)) M * R)))) :=
  St.eq (P := rfz rfb F2 * (dk (.pointer (some ⟨db, 0, none⟩)) (.pointer (some ⟨fb, 0, none⟩)) D * (fz (.pointer (some ⟨fb, 0, none⟩)) (some F) * (rdk rb (.pointer (some ⟨rfb, 0, none⟩)) M * R)))) rfl (s.eq (by unfold Hsd; ac_rfl))
theorem hsd_rset {w : World} {G : Fu} (s : St B w0 w (Hsd db fb rb rfb D F M F2 R)) : St B w0 ((w.setCell ⟨rfb, 0, none⟩ (.bool (!G.bound))).setCell ⟨rfb, 1, none⟩ (.int .i64 G.left)) (Hsd db fb rb rfb D F M G R) := by
  have q := ((hsd_rfz s).set 0 (.bool (!G.bound))).set 1 (.int .i64 G.left)
  have q : St B w0 _ (rfz rfb G * (dk (.pointer (some ⟨db, 0, none⟩)) (.pointer (some ⟨fb, 0, none⟩)) D * (fz (.pointer (some ⟨fb, 0, none⟩)) (some F) * (rdk rb (.pointer (some ⟨rfb, 0, none⟩)) M * R)))) := q
  exact q.eq (by unfold Hsd; ac_rfl)
theorem hso_fail {w : World} (h : M.ok) (s : St B w0 w (Hso db fb rb rfb sv wv D F M F2 R)) : St B w0 (w.setCell ⟨rb, 1, none⟩ (.bool false)) (Hsd db fb rb rfb D F ⟨M.slots, false, M.wait⟩ F2 R) := by
  have q := (rdkO_d (hso_r s)).set 1 (.bool false)
  have q : St B w0 _ (rdkO rb (.pointer (some ⟨rfb, 0, none⟩)) sv wv ⟨M.slots, false, M.wait⟩ * (rfz rfb F2 * (dk (.pointer (some ⟨db, 0, none⟩)) (.pointer (some ⟨fb, 0, none⟩)) D * (fz (.pointer (some ⟨fb, 0, none⟩)) (some F) * R)))) := q.eq (by unfold rdkO; ac_rfl)
  exact hsd_back (rdk_mk ⟨h.few, h.len, h.wlen, h.wslot, h.wfew⟩ q)
end
/-- The disk that is written, in stages. -/
def WF (e1 : Int) (k : Nat) (a : Nat × Nat) : Value := match k with
  | 0 => .slice (some ⟨a.1, 0, none⟩) 96 96
  | 1 => .int .i64 e1
  | 2 => .slice (some ⟨a.2, 0, none⟩) 96 96
  | _ => .int .i64 e1
def WH (db fb rb rfb : Nat) (c : UInt8) (D : Dk) (F : Fu) (M : Rk) (D1 : Dk) (F1 : Fu) (M1 : Rk) (R : HP) (k : Nat) (a : Nat × Nat) : HP := match k with
  | 0 => row 5 1 (.slice (some ⟨a.1, 0, none⟩) 96 96) 96 (bvs (full c)) * Hsd db fb rb rfb D F M F R
  | 1 => row 5 1 (.slice (some ⟨a.1, 0, none⟩) 96 96) 96 (bvs (full c)) * Hsd db fb rb rfb D1 F1 M F R
  | 2 => row 5 1 (.slice (some ⟨a.2, 0, none⟩) 96 96) 96 (bvs (full c)) * (row 5 1 (.slice (some ⟨a.1, 0, none⟩) 96 96) 96 (bvs (full c)) * Hsd db fb rb rfb D1 F1 M F R)
  | _ => row 5 1 (.slice (some ⟨a.2, 0, none⟩) 96 96) 96 (bvs (full c)) * (row 5 1 (.slice (some ⟨a.1, 0, none⟩) 96 96) 96 (bvs (full c)) * Hsd db fb rb rfb D1 F1 M1 F1 R)
theorem wh_g {db fb rb rfb : Nat} {c : UInt8} {D : Dk} {F : Fu} {M : Rk} {D1 : Dk} {F1 : Fu} {M1 : Rk} {g : Nat} {b : Obj} {R : HP} (k : Nat) (a : Nat × Nat) : ∃ Z, WH db fb rb rfb c D F M D1 F1 M1 (pts g b * R) k a = pts g b * Z := by
  match k with
  | 0 => exact ⟨row 5 1 (.slice (some ⟨a.1, 0, none⟩) 96 96) 96 (bvs (full c)) * Hsd db fb rb rfb D F M F R, by unfold WH Hsd; ac_rfl⟩
  | 1 => exact ⟨row 5 1 (.slice (some ⟨a.1, 0, none⟩) 96 96) 96 (bvs (full c)) * Hsd db fb rb rfb D1 F1 M F R, by unfold WH Hsd; ac_rfl⟩
  | 2 => exact ⟨row 5 1 (.slice (some ⟨a.2, 0, none⟩) 96 96) 96 (bvs (full c)) * (row 5 1 (.slice (some ⟨a.1, 0, none⟩) 96 96) 96 (bvs (full c)) * Hsd db fb rb rfb D1 F1 M F R), by unfold WH Hsd; ac_rfl⟩
  | k + 3 => exact ⟨row 5 1 (.slice (some ⟨a.2, 0, none⟩) 96 96) 96 (bvs (full c)) * (row 5 1 (.slice (some ⟨a.1, 0, none⟩) 96 96) 96 (bvs (full c)) * Hsd db fb rb rfb D1 F1 M1 F1 R), by unfold WH Hsd; ac_rfl⟩
theorem wh_bs {B : Nat} {w0 w : World} {db fb rb rfb : Nat} {c : UInt8} {D : Dk} {F : Fu} {M : Rk} {D1 : Dk} {F1 : Fu} {M1 : Rk} {R : HP} {k : Nat} {a : Nat × Nat} (hk : 2 ≤ k) (s : St B w0 w (WH db fb rb rfb c D F M D1 F1 M1 R k a)) : BS w (.slice (some ⟨a.2, 0, none⟩) 96 96) (full c) := by
  match k, hk, s with
  | 2, _, s => exact St.bs (show St B w0 w (row 5 1 (.slice (some ⟨a.2, 0, none⟩) 96 96) 96 (bvs (full c)) * (row 5 1 (.slice (some ⟨a.1, 0, none⟩) 96 96) 96 (bvs (full c)) * Hsd db fb rb rfb D1 F1 M F R)) from s)
  | k + 3, _, s => exact St.bs (show St B w0 w (row 5 1 (.slice (some ⟨a.2, 0, none⟩) 96 96) 96 (bvs (full c)) * (row 5 1 (.slice (some ⟨a.1, 0, none⟩) 96 96) 96 (bvs (full c)) * Hsd db fb rb rfb D1 F1 M1 F1 R)) from s)
theorem hsd_xx {B : Nat} {w0 w : World} {db fb rb rfb : Nat} {D : Dk} {F F2 : Fu} {M : Rk} {R X Y : HP} : St B w0 w (X * (Y * Hsd db fb rb rfb D F M F2 R)) ↔ St B w0 w (Hsd db fb rb rfb D F M F2 (X * (Y * R))) := by
  rw [show X * (Y * Hsd db fb rb rfb D F M F2 R) = Hsd db fb rb rfb D F M F2 (X * (Y * R)) by unfold Hsd; ac_rfl]
/-! ### both disks do the same -/
theorem both_write {D : Dk} {M : Rk} (h : Sim D M) (F : Fu) (i : Int) (bs : List UInt8) (n : Nat) (hn : D.pend.length ≤ n ∧ M.wait.length ≤ n) :
    ∃ e1 F1 D1 M1, dWrite (some F) D i bs = (e1, some F1, D1) ∧ rkWrite F M i bs = (e1, F1, M1) ∧ Sim D1 M1 ∧ D1.pend.length ≤ n + 1 ∧ M1.wait.length ≤ n + 1 := by
  obtain ⟨h1, h2, h3⟩ := sim_write h F i bs
  refine ⟨(rkWrite F M i bs).1, (rkWrite F M i bs).2.1, (dWrite (some F) D i bs).2.2, (rkWrite F M i bs).2.2, ?_, rfl, h3, pw_write hn.1 _ _ _, mw_write hn.2 _ _ _⟩
  rw [h1, h2]
theorem both_sync {D : Dk} {M : Rk} (h : Sim D M) (hok : D.ok) (F : Fu) (n : Nat) (hn : D.pend.length ≤ n ∧ M.wait.length ≤ n) :
    ∃ e1 D1 M1, dSync (some F) D = (e1, D1) ∧ rkSync F M = (e1, M1) ∧ Sim D1 M1 ∧ D1.pend.length ≤ n + 1 ∧ M1.wait.length ≤ n + 1 := by
  obtain ⟨h1, h3⟩ := sim_sync h hok F
  refine ⟨(rkSync F M).1, (dSync (some F) D).2, (rkSync F M).2, ?_, rfl, h3, pw_sync hn.1 _, mw_sync hn.2 _⟩
  rw [h1]
theorem both_rot {D : Dk} {M : Rk} (h : Sim D M) (hok : D.ok) (i k : Int) (x : UInt8) (n : Nat) (hn : D.pend.length ≤ n ∧ M.wait.length ≤ n) :
    ∃ e1 D1 M1, dRot D i k x = (e1, D1) ∧ rkRot M i k x = (e1, M1) ∧ Sim D1 M1 ∧ D1.pend.length ≤ n + 1 ∧ M1.wait.length ≤ n + 1 := by
  obtain ⟨h1, h3⟩ := sim_rot h hok i k x
  refine ⟨(rkRot M i k x).1, (dRot D i k x).2, (rkRot M i k x).2, ?_, rfl, h3, pw_rot hn.1 _ _ _, mw_rot hn.2 _ _ _⟩
  rw [h1]
/-- Where the script stands. -/
def Rel (B : Nat) (w0 : World) (db fb rb rfb : Nat) (R : HP) (n : Nat) (w : World) : Prop := ∃ D M F, Sim D M ∧ D.pend.length ≤ n ∧ M.wait.length ≤ n ∧ St B w0 w (Hsd db fb rb rfb D F M F R)
end Go.Proofs.Yteikpbangjpilaa.DskL
