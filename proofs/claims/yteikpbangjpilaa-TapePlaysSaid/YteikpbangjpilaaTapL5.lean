/- TapePlays, walked. -/
import Derived.Test.YteikpbangjpilaaTapR
import Derived.Test.YteikpbangjpilaaTapL4
namespace Go.Proofs.Yteikpbangjpilaa.TapL
open Go Go.RowKit Go.Proofs.Yteikpbangjpilaa Go.Proofs.Yteikpbangjpilaa.Sp Go.Proofs.Yteikpbangjpilaa.Reg Go.Proofs.Yteikpbangjpilaa.SlW Go.Proofs.Yteikpbangjpilaa.Fus Go.Proofs.Yteikpbangjpilaa.TapW Go.Proofs.Yteikpbangjpilaa.TapR

/-- The two tapes and the two Fuses. -/
def Hst (tb fb rb rfb : Nat) (T : Tp) (F : Fu) (T2 : Tp) (F2 : Fu) (R : HP) : HP :=
  tp (.pointer (some ⟨tb, 0, none⟩)) (.pointer (some ⟨fb, 0, none⟩)) T * (fz (.pointer (some ⟨fb, 0, none⟩)) (some F) * (rtp rb (.pointer (some ⟨rfb, 0, none⟩)) T2 * (rfz rfb F2 * R)))
def fu1 (F : Fu) (G : Option Fu) : Fu := G.getD F
theorem app_some (F : Fu) (T : Tp) (bs : List UInt8) : (tApp (some F) T bs).2.1 = some (fu1 F (tApp (some F) T bs).2.1) := by
  unfold tApp; repeat (first | split | rfl)
theorem cut_some (F : Fu) (T : Tp) (n : Int) : (tCut (some F) T n).2.1 = some (fu1 F (tCut (some F) T n).2.1) := by
  unfold tCut; repeat (first | split | rfl)
def fits (F : Fu) : Prop := F.left ≤ 9223372036854775807
theorem spend_fits {F : Fu} (h : fits F) : fits (fu1 F (fspend (some F))) := by
  obtain ⟨l, bd⟩ := F
  unfold fits at *
  cases bd
  · exact h
  · show l - 1 ≤ _
    have : l ≤ _ := h
    omega
theorem app_fits {F : Fu} (h : fits F) (T : Tp) (bs : List UInt8) : fits (fu1 F (tApp (some F) T bs).2.1) := by
  unfold tApp
  split
  · exact h
  · split
    · exact h
    · split
      · exact h
      · exact spend_fits h
theorem cut_fits {F : Fu} (h : fits F) (T : Tp) (n : Int) : fits (fu1 F (tCut (some F) T n).2.1) := by
  unfold tCut
  split
  · exact h
  · split
    · exact h
    · split
      · exact h
      · exact spend_fits h
theorem app_ok {T : Tp} (h : T.ok) (F : Option Fu) (bs : List UInt8) : (tApp F T bs).2.2.ok := by
  unfold tApp
  split
  · exact h
  · split
    · exact h
    · split
      · exact h
      · obtain ⟨h1, h2⟩ := h
        constructor <;> simp <;> omega
theorem sync_ok {T : Tp} (h : T.ok) (F : Option Fu) : (tSync F T).2.ok := by
  unfold tSync
  split
  · exact h
  · split
    · exact h
    · exact ⟨Nat.zero_le _, h.2⟩
theorem cut_ok {T : Tp} (h : T.ok) (F : Option Fu) (n : Int) : (tCut F T n).2.2.ok := by
  unfold tCut
  split
  · exact h
  · split
    · exact h
    · split
      · exact h
      · refine ⟨Nat.zero_le _, ?_⟩
        have := h.2
        simp only [List.length_take]
        omega
theorem crash_ok {T : Tp} (h : T.ok) (k : Int) : (tCrash T k).ok := by
  refine ⟨Nat.zero_le _, ?_⟩
  have := h.2
  simp only [tCrash, List.length_take]
  omega
theorem new_fits {k : Int} (h : k ≤ 9223372036854775807) : fits (Fu.new k) := by
  show k.toNat ≤ _
  omega
section
variable {B : Nat} {w0 w : World} {tb fb rb rfb : Nat} {T T2 : Tp} {F F2 : Fu} {R X : HP}
theorem hst_x (s : St B w0 w (X * Hst tb fb rb rfb T F T2 F2 R)) : St B w0 w (Hst tb fb rb rfb T F T2 F2 (X * R)) := s.eq (by unfold Hst; ac_rfl)
theorem hst_y (s : St B w0 w (Hst tb fb rb rfb T F T2 F2 (X * R))) : St B w0 w (X * Hst tb fb rb rfb T F T2 F2 R) := s.eq (by unfold Hst; ac_rfl)
theorem hst_g {g : Nat} {C : Array Value} {t : TypeId} {f : Nat × Nat} (s : St B w0 w (Hst tb fb rb rfb T F T2 F2 (pts g (.cells C t f) * R))) (i : Nat) : w.cell? ⟨g, i, none⟩ = C[i]? := (hst_y s).cell i
theorem hst_rtp (s : St B w0 w (Hst tb fb rb rfb T F T2 F2 R)) : St B w0 w (pts rb (.cells #[str T2.b, .int .i64 T2.loose, .bool (!T2.gone), .pointer (some ⟨rfb, 0, none⟩)] 49 (0, 0)) * (tp (.pointer (some ⟨tb, 0, none⟩)) (.pointer (some ⟨fb, 0, none⟩)) T * (fz (.pointer (some ⟨fb, 0, none⟩)) (some F) * (rfz rfb F2 * R)))) :=
  rtp_cells (s.eq (by unfold Hst; ac_rfl))
theorem hst_rcell (s : St B w0 w (X * Hst tb fb rb rfb T F T2 F2 R)) : w.cell? ⟨rb, 0, none⟩ = some (str T2.b) ∧ w.cell? ⟨rb, 1, none⟩ = some (.int .i64 T2.loose) ∧ w.cell? ⟨rb, 2, none⟩ = some (.bool (!T2.gone)) :=
  ⟨(hst_rtp (hst_x s)).cell 0, (hst_rtp (hst_x s)).cell 1, (hst_rtp (hst_x s)).cell 2⟩
theorem hst_live (w : World) (s : St B w0 w (X * Hst tb fb rb rfb T F T2 F2 R)) : Calls Try.prog 32 #[.pointer (some ⟨tb, 0, none⟩)] w (RetS B w0 (X * Hst tb fb rb rfb T F T2 F2 R) (.bool (!T.gone))) :=
  (live_calls T _ _ w (hst_x s)).mono fun _ _ ⟨h1, h2⟩ => ⟨h1, hst_y h2⟩
theorem hst_loose (w : World) (s : St B w0 w (X * Hst tb fb rb rfb T F T2 F2 R)) : Calls Try.prog 17 #[.pointer (some ⟨tb, 0, none⟩)] w (RetS B w0 (X * Hst tb fb rb rfb T F T2 F2 R) (.int .i64 T.loose)) :=
  (loose_calls T _ _ w (hst_x s)).mono fun _ _ ⟨h1, h2⟩ => ⟨h1, hst_y h2⟩
theorem hst_append (w : World) {bs : List UInt8} {e1 : Int} {T1 : Tp} {F1 : Fu} {a : Option Addr} {n c : Nat} (ht : tApp (some F) T bs = (e1, some F1, T1)) (hb : ∀ R, Reads B w0 R (.slice a n c) bs) (hn : n ≤ 4611686018427387904) (s : St B w0 w (Hst tb fb rb rfb T F T2 F2 R)) :
    Calls Try.prog 15 #[.pointer (some ⟨tb, 0, none⟩), .slice a n c] w (RetS B w0 (Hst tb fb rb rfb T1 F1 T2 F2 R) (.int .i64 e1)) := by
  have q := append_calls (some F) T bs (.pointer (some ⟨tb, 0, none⟩)) (some ⟨fb, 0, none⟩) a n c w (hb _) hn s
  rw [ht] at q
  exact q
theorem hst_rappend (w : World) {bs : List UInt8} {e1 : Int} {T1 : Tp} {F1 : Fu} (ht : tApp (some F2) T2 bs = (e1, some F1, T1)) (hok : T2.ok) (hft : fits F2) (hn : bs.length ≤ 4611686018427387904) (s : St B w0 w (Hst tb fb rb rfb T F T2 F2 R)) :
    Calls Try.prog 24 #[.pointer (some ⟨rb, 0, none⟩), str bs] w (RetS B w0 (Hst tb fb rb rfb T F T1 F1 R) (.int .i64 e1)) := by
  have q := rappend_calls F2 T2 hok bs rb rfb w hn hft (s.eq (Q := rtp rb (.pointer (some ⟨rfb, 0, none⟩)) T2 * (rfz rfb F2 * (tp (.pointer (some ⟨tb, 0, none⟩)) (.pointer (some ⟨fb, 0, none⟩)) T * (fz (.pointer (some ⟨fb, 0, none⟩)) (some F) * R)))) (by unfold Hst; ac_rfl))
  rw [ht] at q
  exact q.mono fun _ _ ⟨h1, h2⟩ => ⟨h1, h2.eq (by unfold Hst; show rtp _ _ _ * (rfz rfb F1 * _) = _; ac_rfl)⟩
theorem hst_sync (w : World) {e1 : Int} {T1 : Tp} (ht : tSync (some F) T = (e1, T1)) (s : St B w0 w (Hst tb fb rb rfb T F T2 F2 R)) :
    Calls Try.prog 16 #[.pointer (some ⟨tb, 0, none⟩)] w (RetS B w0 (Hst tb fb rb rfb T1 F T2 F2 R) (.int .i64 e1)) := by
  have q := sync_calls (some F) T (.pointer (some ⟨tb, 0, none⟩)) (some ⟨fb, 0, none⟩) w s
  rw [ht] at q
  exact q
theorem hst_rsync (w : World) {e1 : Int} {T1 : Tp} (ht : tSync (some F2) T2 = (e1, T1)) (s : St B w0 w (Hst tb fb rb rfb T F T2 F2 R)) :
    Calls Try.prog 25 #[.pointer (some ⟨rb, 0, none⟩)] w (RetS B w0 (Hst tb fb rb rfb T F T1 F2 R) (.int .i64 e1)) := by
  have q := rsync_calls F2 T2 rb rfb w (s.eq (Q := rtp rb (.pointer (some ⟨rfb, 0, none⟩)) T2 * (rfz rfb F2 * (tp (.pointer (some ⟨tb, 0, none⟩)) (.pointer (some ⟨fb, 0, none⟩)) T * (fz (.pointer (some ⟨fb, 0, none⟩)) (some F) * R)))) (by unfold Hst; ac_rfl))
  rw [ht] at q
  exact q.mono fun _ _ ⟨h1, h2⟩ => ⟨h1, h2.eq (by unfold Hst; ac_rfl)⟩
theorem hst_cut (w : World) {n : Int} {e1 : Int} {T1 : Tp} {F1 : Fu} (ht : tCut (some F) T n = (e1, some F1, T1)) (s : St B w0 w (Hst tb fb rb rfb T F T2 F2 R)) :
    Calls Try.prog 20 #[.pointer (some ⟨tb, 0, none⟩), .int .i64 n] w (RetS B w0 (Hst tb fb rb rfb T1 F1 T2 F2 R) (.int .i64 e1)) := by
  have q := cut_calls (some F) T n (.pointer (some ⟨tb, 0, none⟩)) (some ⟨fb, 0, none⟩) w s
  rw [ht] at q
  exact q
theorem hst_rcut (w : World) {n : Int} {e1 : Int} {T1 : Tp} {F1 : Fu} (ht : tCut (some F2) T2 n = (e1, some F1, T1)) (hok : T2.ok) (hft : fits F2) (s : St B w0 w (Hst tb fb rb rfb T F T2 F2 R)) :
    Calls Try.prog 26 #[.pointer (some ⟨rb, 0, none⟩), .int .i64 n] w (RetS B w0 (Hst tb fb rb rfb T F T1 F1 R) (.int .i64 e1)) := by
  have q := rcut_calls F2 T2 n rb rfb w hok hft (s.eq (Q := rtp rb (.pointer (some ⟨rfb, 0, none⟩)) T2 * (rfz rfb F2 * (tp (.pointer (some ⟨tb, 0, none⟩)) (.pointer (some ⟨fb, 0, none⟩)) T * (fz (.pointer (some ⟨fb, 0, none⟩)) (some F) * R)))) (by unfold Hst; ac_rfl))
  rw [ht] at q
  exact q.mono fun _ _ ⟨h1, h2⟩ => ⟨h1, h2.eq (by unfold Hst; show rtp _ _ _ * (rfz rfb F1 * _) = _; ac_rfl)⟩
theorem hst_rreplace (w : World) (s : St B w0 w (Hst tb fb rb rfb T F T2 F2 R)) :
    Calls Try.prog 29 #[.pointer (some ⟨rb, 0, none⟩)] w (RetS B w0 (Hst tb fb rb rfb T F Tp.new F2 R) (.tuple #[])) := by
  have q := rreplace_calls T2 (.pointer (some ⟨rfb, 0, none⟩)) rb w (s.eq (Q := rtp rb (.pointer (some ⟨rfb, 0, none⟩)) T2 * (rfz rfb F2 * (tp (.pointer (some ⟨tb, 0, none⟩)) (.pointer (some ⟨fb, 0, none⟩)) T * (fz (.pointer (some ⟨fb, 0, none⟩)) (some F) * R)))) (by unfold Hst; ac_rfl))
  exact q.mono fun _ _ ⟨h1, h2⟩ => ⟨h1, h2.eq (by unfold Hst; ac_rfl)⟩
theorem hst_rcrash (w : World) (k : Int) (hok : T2.ok) (hk : k ≤ 9223372036854775807) (s : St B w0 w (Hst tb fb rb rfb T F T2 F2 R)) :
    Calls Try.prog 30 #[.pointer (some ⟨rb, 0, none⟩), .int .i64 k] w (RetS B w0 (Hst tb fb rb rfb T F (tCrash T2 k) F2 R) (.tuple #[])) := by
  have q := rcrash_calls T2 k (.pointer (some ⟨rfb, 0, none⟩)) rb w hok hk (s.eq (Q := rtp rb (.pointer (some ⟨rfb, 0, none⟩)) T2 * (rfz rfb F2 * (tp (.pointer (some ⟨tb, 0, none⟩)) (.pointer (some ⟨fb, 0, none⟩)) T * (fz (.pointer (some ⟨fb, 0, none⟩)) (some F) * R)))) (by unfold Hst; ac_rfl))
  exact q.mono fun _ _ ⟨h1, h2⟩ => ⟨h1, h2.eq (by unfold Hst; ac_rfl)⟩
theorem hst_set (w : World) (k : Int) (hk : k ≤ 9223372036854775807) (s : St B w0 w (Hst tb fb rb rfb T F T2 F2 R)) :
    Calls Try.prog 31 #[.pointer (some ⟨fb, 0, none⟩), .int .i64 k] w (RetS B w0 (Hst tb fb rb rfb T (Fu.new k) T2 F2 R) (.tuple #[])) := by
  have q := set_calls F (.pointer (some ⟨fb, 0, none⟩)) k w hk (s.eq (Q := fz (.pointer (some ⟨fb, 0, none⟩)) (some F) * (tp (.pointer (some ⟨tb, 0, none⟩)) (.pointer (some ⟨fb, 0, none⟩)) T * (rtp rb (.pointer (some ⟨rfb, 0, none⟩)) T2 * (rfz rfb F2 * R)))) (by unfold Hst; ac_rfl))
  exact q.mono fun _ _ ⟨h1, h2⟩ => ⟨h1, h2.eq (by unfold Hst; ac_rfl)⟩
theorem hst_fail {w : World} (s : St B w0 w (Hst tb fb rb rfb T F T2 F2 R)) : St B w0 (w.setCell ⟨rb, 2, none⟩ (.bool false)) (Hst tb fb rb rfb T F ⟨T2.b, T2.loose, true⟩ F2 R) := by
  have q := (hst_rtp s).set 2 (.bool false)
  have q : St B w0 _ (rtp rb (.pointer (some ⟨rfb, 0, none⟩)) ⟨T2.b, T2.loose, true⟩ * (tp (.pointer (some ⟨tb, 0, none⟩)) (.pointer (some ⟨fb, 0, none⟩)) T * (fz (.pointer (some ⟨fb, 0, none⟩)) (some F) * (rfz rfb F2 * R)))) := q
  exact q.eq (by unfold Hst; ac_rfl)
theorem hst_rfz (s : St B w0 w (Hst tb fb rb rfb T F T2 F2 R)) : St B w0 w (pts rfb (.cells #[.bool (!F2.bound), .int .i64 F2.left] 51 (0, 0)) * (tp (.pointer (some ⟨tb, 0, none⟩)) (.pointer (some ⟨fb, 0, none⟩)) T * (fz (.pointer (some ⟨fb, 0, none⟩)) (some F) * (rtp rb (.pointer (some ⟨rfb, 0, none⟩)) T2 * R)))) :=
  St.eq (P := rfz rfb F2 * (tp (.pointer (some ⟨tb, 0, none⟩)) (.pointer (some ⟨fb, 0, none⟩)) T * (fz (.pointer (some ⟨fb, 0, none⟩)) (some F) * (rtp rb (.pointer (some ⟨rfb, 0, none⟩)) T2 * R)))) rfl (s.eq (by unfold Hst; ac_rfl))
theorem hst_rset {w : World} {G : Fu} (s : St B w0 w (Hst tb fb rb rfb T F T2 F2 R)) : St B w0 ((w.setCell ⟨rfb, 0, none⟩ (.bool (!G.bound))).setCell ⟨rfb, 1, none⟩ (.int .i64 G.left)) (Hst tb fb rb rfb T F T2 G R) := by
  have q := ((hst_rfz s).set 0 (.bool (!G.bound))).set 1 (.int .i64 G.left)
  have q : St B w0 _ (rfz rfb G * (tp (.pointer (some ⟨tb, 0, none⟩)) (.pointer (some ⟨fb, 0, none⟩)) T * (fz (.pointer (some ⟨fb, 0, none⟩)) (some F) * (rtp rb (.pointer (some ⟨rfb, 0, none⟩)) T2 * R)))) := q
  exact q.eq (by unfold Hst; ac_rfl)
end
/-- Where the round stands. -/
def Rel (B : Nat) (w0 : World) (tb fb rb rfb : Nat) (R : HP) (w : World) : Prop := ∃ T F, T.ok ∧ fits F ∧ St B w0 w (Hst tb fb rb rfb T F T F R)

set_option maxRecDepth 100000 in
set_option maxHeartbeats 40000000 in
theorem plays_walk (fuse : Int) (a : Option Addr) (ca : Nat) (l : List Op) (w0 : World) (wf : (Lit.int .i64 fuse).wf = true) (hl : Elems ROp 3 w0 (.slice a l.length ca) l) :
    Calls Try.prog 6 #[.int .i64 fuse, .slice a l.length ca] w0 fun e w' => e = .returned (.bool true) ∧ Below w0.heap.size w0 w' := by
  have hfu : fuse ≤ 9223372036854775807 := by simpa [Lit.wf, IntKind.min, IntKind.max, IntKind.signed, IntKind.bits] using (by simpa [Lit.wf, IntKind.min, IntKind.max, IntKind.signed, IntKind.bits] using wf : _ ∧ _).2
  have hlm : l.length ≤ 9223372036854775807 := by obtain ⟨_, _, _, h1, h2, _⟩ := hl; unfold maxLen at h2; omega
  clear wf
  have Hl := Lib.hid hl
  clear hl
  go_enter Try.func6, Try.ntmps6
  go_wp2_with fail
  refine (newFuse_calls fuse _ hfu (St.init w0)).mono ?_
  rintro e w1 ⟨p, rfl, s1⟩
  obtain ⟨fb, rfl, -, -⟩ := fz_some s1
  have S1 := Lib.hid s1
  clear s1
  go_wp2_with fail
  refine (rnewFuse_calls fuse _ S1.out).mono ?_
  rintro e w2 ⟨rfb, rfl, s2⟩
  have S2 := Lib.hid s2
  clear s2
  clear S1
  go_wp2_with fail
  refine (new_calls (some ⟨fb, 0, none⟩) _ S2.out).mono ?_
  rintro e w3 ⟨p, rfl, s3⟩
  obtain ⟨tb, v, rfl, -, -⟩ := tp_open s3
  have S3 := Lib.hid s3
  clear s3
  clear S2
  go_wp2_with fail
  refine (rnewTape_calls (some ⟨rfb, 0, none⟩) _ S3.out).mono ?_
  rintro e w4 ⟨rb, rfl, s4⟩
  have s4 : St w0.heap.size w0 w4 (Hst tb fb rb rfb Tp.new (Fu.new fuse) Tp.new (Fu.new fuse) emp) := s4.eq (by unfold Hst; ac_rfl)
  have S4 := Lib.hid s4
  clear s4
  clear S3
  go_wp2_with fail
  refine (awake_calls _).mono ?_
  rintro e w5 ⟨rfl, h5⟩
  have S5 := Lib.hid (S4.out.keep h5)
  clear h5 S4
  go_wp2_with fail
  go_loopw [9] (fun i wr => ∃ k : Nat, k ≤ l.length ∧ k ≤ 60 ∧ i = .int .i64 k ∧ Rel w0.heap.size w0 tb fb rb rfb emp wr) (fun i _ => 60 - (intOf i).toNat)
  case atStart => exact ⟨0, Nat.zero_le _, Nat.zero_le _, rfl, _, _, ⟨Nat.le_refl _, Nat.zero_le _⟩, new_fits hfu, S5.out⟩
  case round =>
    obtain ⟨k, hk1, hk2, rfl, T, F, hok, hft, s6⟩ := hrel
    clear S5
    have S6 := Lib.hid s6
    have HOK := Lib.hid hok
    have HFT := Lib.hid hft
    clear hok hft
    by_cases hlt : k < l.length ∧ k < 60
    · obtain ⟨hlt1, hlt2⟩ := hlt
      obtain ⟨b0, off, cs, rfl, hcs, ⟨vb, rfl, hb, w1, w2⟩, hcell⟩ := Hl.out.arg k hlt1
      have c0 := hcell _ _ s6 0 (by omega)
      have c1 := hcell _ _ s6 1 (by omega)
      have c2 := hcell _ _ s6 2 (by omega)
      simp at c0 c1 c2
      obtain ⟨ab, cb, rfl, -⟩ := id hb
      generalize l[k] = o at *
      obtain ⟨kd, n, b⟩ := o
      simp only at c0 c1 c2 hb w1 w2
      have hn : n ≤ 9223372036854775807 := by simpa [Lit.wf, IntKind.min, IntKind.max, IntKind.signed, IntKind.bits] using (by simpa [Lit.wf, IntKind.min, IntKind.max, IntKind.signed, IntKind.bits] using w2 : _ ∧ _).2
      have Hb := Lib.hid hb
      clear hb hcell w1 w2 s6
      by_cases hlen : 300 < b.length
      · have hlen' : (300 : Int) < (b.length : Int) := by omega
        clear hlen
        go_wp2_with fail
        go_ret
        exact ⟨rfl, (S6.out.alloc _).below⟩
      · have hlen' : (b.length : Int) ≤ 300 := by omega
        clear hlen
        by_cases k0 : kd = 0
        · subst k0
          go_wp2_with fail
          have s7 : St w0.heap.size w0 (wr.alloc (.cells #[.int .i64 0, .int .i64 n, .slice ab b.length cb] 27)) (Hst tb fb rb rfb T F T F (pts wr.heap.size (.cells #[.int .i64 0, .int .i64 n, .slice ab b.length cb] 27) * emp)) := hst_x (S6.out.alloc (.cells #[.int .i64 0, .int .i64 n, .slice ab b.length cb] 27))
          generalize wr.alloc _ = w7 at s7 ⊢
          generalize wr.heap.size = g at s7 ⊢
          have cg : ∀ w' T F T2 F2, St w0.heap.size w0 w' (Hst tb fb rb rfb T F T2 F2 (pts g (.cells #[.int .i64 0, .int .i64 n, .slice ab b.length cb] 27) * emp)) → w'.cell? ⟨g, 1, none⟩ = some (.int .i64 n) ∧ w'.cell? ⟨g, 2, none⟩ = some (.slice ab b.length cb) := fun w' T F T2 F2 s => by
            exact ⟨hst_g s 1, hst_g s 2⟩
          have S7 := Lib.hid s7
          have CG := Lib.hid cg
          clear s7 cg S6 c0 c1 c2
          obtain ⟨e1, T1, F1, ht⟩ : ∃ e1 T1 F1, tApp (some F) T b = (e1, some F1, T1) := ⟨(tApp (some F) T b).1, (tApp (some F) T b).2.2, fu1 F (tApp (some F) T b).2.1, by rw [← app_some]⟩
          have hok1 : T1.ok := by have q := app_ok HOK.out (some F) b; rw [ht] at q; exact q
          have hft1 : fits F1 := by have q := app_fits HFT.out T b; rw [ht] at q; exact q
          have HT := Lib.hid ht
          have HOK1 := Lib.hid hok1
          have HFT1 := Lib.hid hft1
          clear ht hok1 hft1
          refine wp_region_rx (fun j w => St w0.heap.size w0 w (Hst tb fb rb rfb (if j = 0 then T else T1) (if j = 0 then F else F1) (if j ≤ 1 then T else T1) (if j ≤ 1 then F else F1) (pts g (.cells #[.int .i64 0, .int .i64 n, .slice ab b.length cb] 27) * emp))) [3, 8] mixed (by kernel_rfl) (by kernel_rfl) S7.out.drew ?_
          refine RXl.exact (.pointer (some ⟨tb, 0, none⟩)) rfl rfl rfl rfl rfl (fun _ _ _ _ _ => rfl) ?_
          refine RXl.exact (.pointer (some ⟨g, 2, none⟩)) rfl rfl rfl rfl rfl (fun j τ w' hj hJ => by simp [rho, upd, Spec.val, execOp, go_sem]) ?_
          refine RXl.exact (.slice ab b.length cb) rfl rfl rfl rfl rfl (fun j τ w' hj hJ => by have c := (CG.out w' _ _ _ _ hJ).2; simp [rho, upd, Spec.val, execOp, go_sem, c]) ?_
          refine RXl.callj 0 (.int .i64 e1) _ [.pointer (some ⟨tb, 0, none⟩), .slice ab b.length cb] [.tmp 64, .tmp 66] _ rfl rfl rfl rfl rfl rfl (fun _ => rfl) (fun w' hJ => hst_append w' HT.out (fun R => reads_arg R Hb.out) (by omega) (show St w0.heap.size w0 w' (Hst tb fb rb rfb T F T F _) from hJ)) ?_
          refine RXl.exact (.pointer (some ⟨rb, 0, none⟩)) rfl rfl rfl rfl rfl (fun _ _ _ _ _ => rfl) ?_
          refine RXl.exact (.pointer (some ⟨g, 2, none⟩)) rfl rfl rfl rfl rfl (fun j τ w' hj hJ => by simp [rho, upd, Spec.val, execOp, go_sem]) ?_
          refine RXl.exact (.slice ab b.length cb) rfl rfl rfl rfl rfl (fun j τ w' hj hJ => by have c := (CG.out w' _ _ _ _ hJ).2; simp [rho, upd, Spec.val, execOp, go_sem, c]) ?_
          refine RXl.exact (str b) rfl rfl rfl rfl rfl (fun j τ w' hj hJ => exec_convert rfl (run_str Try.underlying25 Try.underlying5 Try.underlying9 (Hb.out.st rfl hJ))) ?_
          refine RXl.callj 1 (.int .i64 e1) _ [.pointer (some ⟨rb, 0, none⟩), str b] [.tmp 68, .tmp 71] _ rfl rfl rfl rfl rfl rfl (fun _ => rfl) (fun w' hJ => hst_rappend w' HT.out HOK.out HFT.out (by omega) (show St w0.heap.size w0 w' (Hst tb fb rb rfb T1 F1 T F _) from hJ)) ?_
          refine RXl.exact (.bool false) rfl rfl rfl rfl rfl (fun j τ w' hj hJ => by simp [rho, upd, Spec.val, execOp, go_sem]) ?_
          refine RXl.nilx _ (Agr.upd _ _ (Agr.upd _ _ (Agr.upd _ _ (Agr.upd _ _ (Agr.upd _ _ (Agr.upd _ _ (Agr.upd _ _ (Agr.upd _ _ (Agr.upd _ _ (Agr.upd _ _ (Agr.base _))))))))))) fun w8 hJ => ?_
          obtain ⟨_, hJ⟩ := hJ
          simp only [Act.put, List.setIfInBounds_toArray, List.set_cons_succ, List.set_cons_zero]
          have s8 : St w0.heap.size w0 w8 (Hst tb fb rb rfb T1 F1 T1 F1 (pts g (.cells #[.int .i64 0, .int .i64 n, .slice ab b.length cb] 27) * emp)) := hJ
          clear hJ
          have S9 := Lib.hid (show St w0.heap.size w0 w8 (Hst tb fb rb rfb T1 F1 T1 F1 (pts g (.cells #[.int .i64 0, .int .i64 n, .slice ab b.length cb] 27) * emp)) from s8)
          have HOK9 := Lib.hid (show (T1).ok from HOK1.out)
          have HF9 := Lib.hid (show fits (F1) from HFT1.out)
          generalize T1 = T9 at S9 HOK9
          generalize F1 = F9 at S9 HF9
          clear s8 S7 CG HT HOK1 HFT1 HOK HFT
          go_wp2_with fail
          refine (bytes_calls T9 _ _ _ S9.out).mono ?_
          rintro e w10 ⟨a10, c10, he, s10⟩
          obtain ⟨tb9, loose9, gone9⟩ := T9
          cases gone9 with
          | true =>
            have he : e = .returned (.tuple #[.slice a10 0 c10, .int .i64 5]) := he
            subst he
            have S10 := Lib.hid (show St w0.heap.size w0 w10 (row 5 1 (.slice a10 0 c10) 0 (bvs []) * Hst tb fb rb rfb ⟨tb9, loose9, true⟩ F9 ⟨tb9, loose9, true⟩ F9 (pts g (.cells #[.int .i64 0, .int .i64 n, .slice ab b.length cb] 27) * emp)) from s10)
            clear s10 S9
            go_wp2_with fail
            refine wp_region_rx (fun j w => St w0.heap.size w0 w (row 5 1 (.slice a10 0 c10) 0 (bvs []) * Hst tb fb rb rfb ⟨tb9, loose9, true⟩ F9 ⟨tb9, loose9, true⟩ F9 (pts g (.cells #[.int .i64 0, .int .i64 n, .slice ab b.length cb] 27) * emp))) [] mixed (by kernel_rfl) (by kernel_rfl) S10.out.drew ?_
            have rd : ∀ w', St w0.heap.size w0 w' (row 5 1 (.slice a10 0 c10) 0 (bvs []) * Hst tb fb rb rfb ⟨tb9, loose9, true⟩ F9 ⟨tb9, loose9, true⟩ F9 (pts g (.cells #[.int .i64 0, .int .i64 n, .slice ab b.length cb] 27) * emp)) → w'.cell? ⟨rb, 0, none⟩ = some (str tb9) ∧ w'.cell? ⟨rb, 1, none⟩ = some (.int .i64 loose9) ∧ w'.cell? ⟨rb, 2, none⟩ = some (.bool false) := fun w' s => hst_rcell s
            have live : ∀ w', St w0.heap.size w0 w' (row 5 1 (.slice a10 0 c10) 0 (bvs []) * Hst tb fb rb rfb ⟨tb9, loose9, true⟩ F9 ⟨tb9, loose9, true⟩ F9 (pts g (.cells #[.int .i64 0, .int .i64 n, .slice ab b.length cb] 27) * emp)) → Calls Try.prog 32 #[.pointer (some ⟨tb, 0, none⟩)] w' (RetS w0.heap.size w0 (row 5 1 (.slice a10 0 c10) 0 (bvs []) * Hst tb fb rb rfb ⟨tb9, loose9, true⟩ F9 ⟨tb9, loose9, true⟩ F9 (pts g (.cells #[.int .i64 0, .int .i64 n, .slice ab b.length cb] 27) * emp)) (.bool false)) := fun w' s => hst_live w' s
            refine RXl.exact (.pointer (some ⟨tb, 0, none⟩)) rfl rfl rfl rfl rfl (fun _ _ _ _ _ => rfl) ?_
            refine RXl.callr (.bool false) _ [.pointer (some ⟨tb, 0, none⟩)] [.tmp 120] _ rfl rfl rfl rfl rfl rfl (fun _ => rfl) (fun j τ w' hj hJ => live w' hJ) ?_
            refine RXl.exact (.pointer (some ⟨rb, 0, none⟩)) rfl rfl rfl rfl rfl (fun _ _ _ _ _ => rfl) ?_
            refine RXl.exact (.pointer (some ⟨rb, 0, none⟩)) rfl rfl rfl rfl rfl (fun j τ w' hj hJ => by simp [rho, upd, Spec.val, execOp, go_sem]) ?_
            refine RXl.exact (.pointer (some ⟨rb, 2, none⟩)) rfl rfl rfl rfl rfl (fun j τ w' hj hJ => by simp [rho, upd, Spec.val, execOp, go_sem]) ?_
            refine RXl.exact (.bool false) rfl rfl rfl rfl rfl (fun j τ w' hj hJ => by have c := (rd w' hJ).2.2; simp [rho, upd, Spec.val, execOp, go_sem, c]) ?_
            refine RXl.exact (.bool false) rfl rfl rfl rfl rfl (fun j τ w' hj hJ => by simp [rho, upd, Spec.val, execOp, go_sem]) ?_
            refine RXl.exact (.bool false) rfl rfl rfl rfl rfl (fun _ _ _ _ _ => rfl) ?_
            refine RXl.exact (.pointer (some ⟨rb, 0, none⟩)) rfl rfl rfl rfl rfl (fun _ _ _ _ _ => rfl) ?_
            refine RXl.exact (.pointer (some ⟨rb, 0, none⟩)) rfl rfl rfl rfl rfl (fun j τ w' hj hJ => by simp [rho, upd, Spec.val, execOp, go_sem]) ?_
            refine RXl.exact (.pointer (some ⟨rb, 2, none⟩)) rfl rfl rfl rfl rfl (fun j τ w' hj hJ => by simp [rho, upd, Spec.val, execOp, go_sem]) ?_
            refine RXl.exact (.bool false) rfl rfl rfl rfl rfl (fun j τ w' hj hJ => by have c := (rd w' hJ).2.2; simp [rho, upd, Spec.val, execOp, go_sem, c]) ?_
            refine RXl.exact (.bool false) rfl rfl rfl rfl rfl (fun _ _ _ _ _ => rfl) ?_
            refine RXl.skip rfl rfl rfl rfl ?_
            refine RXl.skip rfl rfl rfl rfl ?_
            refine RXl.skip rfl rfl rfl rfl ?_
            refine RXl.skip rfl rfl rfl rfl ?_
            refine RXl.skip rfl rfl rfl rfl ?_
            refine RXl.skip rfl rfl rfl rfl ?_
            refine RXl.skip rfl rfl rfl rfl ?_
            refine RXl.skip rfl rfl rfl rfl ?_
            refine RXl.skip rfl rfl rfl rfl ?_
            refine RXl.skip rfl rfl rfl rfl ?_
            refine RXl.skip rfl rfl rfl rfl ?_
            refine RXl.skip rfl rfl rfl rfl ?_
            refine RXl.skip rfl rfl rfl rfl ?_
            refine RXl.skip rfl rfl rfl rfl ?_
            refine RXl.skip rfl rfl rfl rfl ?_
            refine RXl.skip rfl rfl rfl rfl ?_
            refine RXl.skip rfl rfl rfl rfl ?_
            refine RXl.skip rfl rfl rfl rfl ?_
            refine RXl.skip rfl rfl rfl rfl ?_
            refine RXl.skip rfl rfl rfl rfl ?_
            refine RXl.exact (.bool false) rfl rfl rfl rfl rfl (fun _ _ _ _ _ => rfl) ?_
            refine RXl.exact (.bool false) rfl rfl rfl rfl rfl (fun _ _ _ _ _ => rfl) ?_
            refine RXl.exact (.bool false) rfl rfl rfl rfl rfl (fun _ _ _ _ _ => rfl) ?_
            refine RXl.exact (.pointer (some ⟨rb, 0, none⟩)) rfl rfl rfl rfl rfl (fun _ _ _ _ _ => rfl) ?_
            refine RXl.exact (.pointer (some ⟨rb, 0, none⟩)) rfl rfl rfl rfl rfl (fun j τ w' hj hJ => by simp [rho, upd, Spec.val, execOp, go_sem]) ?_
            refine RXl.exact (.pointer (some ⟨rb, 2, none⟩)) rfl rfl rfl rfl rfl (fun j τ w' hj hJ => by simp [rho, upd, Spec.val, execOp, go_sem]) ?_
            refine RXl.exact (.bool false) rfl rfl rfl rfl rfl (fun j τ w' hj hJ => by have c := (rd w' hJ).2.2; simp [rho, upd, Spec.val, execOp, go_sem, c]) ?_
            refine RXl.exact (.bool true) rfl rfl rfl rfl rfl (fun j τ w' hj hJ => by simp [rho, upd, Spec.val, execOp, go_sem]) ?_
            refine RXl.exact (.bool true) rfl rfl rfl rfl rfl (fun _ _ _ _ _ => rfl) ?_
            refine RXl.exact (.int .i64 5) rfl rfl rfl rfl rfl (fun _ _ _ _ _ => rfl) ?_
            refine RXl.exact (.bool false) rfl rfl rfl rfl rfl (fun j τ w' hj hJ => by simp [rho, upd, Spec.val, execOp, go_sem]) ?_
            refine RXl.exact (.bool false) rfl rfl rfl rfl rfl (fun _ _ _ _ _ => rfl) ?_
            refine RXl.exact (.slice a10 0 c10) rfl rfl rfl rfl rfl (fun _ _ _ _ _ => rfl) ?_
            refine RXl.exact (.int .i64 0) rfl rfl rfl rfl rfl (fun j τ w' hj hJ => by simp [rho, upd, Spec.val, execOp, go_sem]) ?_
            refine RXl.exact (.bool false) rfl rfl rfl rfl rfl (fun j τ w' hj hJ => by simp [rho, upd, Spec.val, execOp, go_sem]) ?_
            refine RXl.exact (.bool false) rfl rfl rfl rfl rfl (fun _ _ _ _ _ => rfl) ?_
            refine RXl.exact (.bool false) rfl rfl rfl rfl rfl (fun _ _ _ _ _ => rfl) ?_
            refine RXl.exact (.bool false) rfl rfl rfl rfl rfl (fun _ _ _ _ _ => rfl) ?_
            refine RXl.nilx _ (Agr.upd _ _ (Agr.upd _ _ (Agr.upd _ _ (Agr.upd _ _ (Agr.upd _ _ (Agr.upd _ _ (Agr.upd _ _ (Agr.upd _ _ (Agr.upd _ _ (Agr.upd _ _ (Agr.upd _ _ (Agr.upd _ _ (Agr.upd _ _ (Agr.upd _ _ (Agr.upd _ _ (Agr.upd _ _ (Agr.upd _ _ (Agr.upd _ _ (Agr.upd _ _ (Agr.upd _ _ (Agr.upd _ _ (Agr.upd _ _ (Agr.upd _ _ (Agr.upd _ _ (Agr.upd _ _ (Agr.upd _ _ (Agr.upd _ _ (Agr.upd _ _ (Agr.upd _ _ (Agr.upd _ _ (Agr.upd _ _ (Agr.upd _ _ (Agr.upd _ _ (Agr.upd _ _ (Agr.upd _ _ (Agr.upd _ _ (Agr.upd _ _ (Agr.upd _ _ (Agr.upd _ _ (Agr.upd _ _ (Agr.upd _ _ (Agr.upd _ _ (Agr.upd _ _ (Agr.upd _ _ (Agr.upd _ _ (Agr.upd _ _ (Agr.upd _ _ (Agr.upd _ _ (Agr.upd _ _ (Agr.upd _ _ (Agr.upd _ _ (Agr.base _)))))))))))))))))))))))))))))))))))))))))))))))))))) fun w11 hJ => ?_
            obtain ⟨_, hJ⟩ := hJ
            simp only [Act.put, List.setIfInBounds_toArray, List.set_cons_succ, List.set_cons_zero]
            have S11 := Lib.hid (St.right hJ)
            clear hJ rd live S10
            go_wp2_with fail
            go_roundw
            case rel => exact ⟨k + 1, by omega, by omega, by go_num, _, _, HOK9.out, HF9.out, (hst_y S11.out).right⟩
            case measure => simp [intOf]; omega
          | false =>
            have he : e = .returned (.tuple #[.slice a10 tb9.length c10, .int .i64 0]) := he
            subst he
            have S10 := Lib.hid (show St w0.heap.size w0 w10 (row 5 1 (.slice a10 tb9.length c10) tb9.length (bvs tb9) * Hst tb fb rb rfb ⟨tb9, loose9, false⟩ F9 ⟨tb9, loose9, false⟩ F9 (pts g (.cells #[.int .i64 0, .int .i64 n, .slice ab b.length cb] 27) * emp)) from s10)
            clear s10 S9
            go_wp2_with fail
            refine wp_region_rx (fun j w => St w0.heap.size w0 w (row 5 1 (.slice a10 tb9.length c10) tb9.length (bvs tb9) * Hst tb fb rb rfb ⟨tb9, loose9, false⟩ F9 ⟨tb9, loose9, false⟩ F9 (pts g (.cells #[.int .i64 0, .int .i64 n, .slice ab b.length cb] 27) * emp))) [] mixed (by kernel_rfl) (by kernel_rfl) S10.out.drew ?_
            have rd : ∀ w', St w0.heap.size w0 w' (row 5 1 (.slice a10 tb9.length c10) tb9.length (bvs tb9) * Hst tb fb rb rfb ⟨tb9, loose9, false⟩ F9 ⟨tb9, loose9, false⟩ F9 (pts g (.cells #[.int .i64 0, .int .i64 n, .slice ab b.length cb] 27) * emp)) → w'.cell? ⟨rb, 0, none⟩ = some (str tb9) ∧ w'.cell? ⟨rb, 1, none⟩ = some (.int .i64 loose9) ∧ w'.cell? ⟨rb, 2, none⟩ = some (.bool true) := fun w' s => hst_rcell s
            have live : ∀ w', St w0.heap.size w0 w' (row 5 1 (.slice a10 tb9.length c10) tb9.length (bvs tb9) * Hst tb fb rb rfb ⟨tb9, loose9, false⟩ F9 ⟨tb9, loose9, false⟩ F9 (pts g (.cells #[.int .i64 0, .int .i64 n, .slice ab b.length cb] 27) * emp)) → Calls Try.prog 32 #[.pointer (some ⟨tb, 0, none⟩)] w' (RetS w0.heap.size w0 (row 5 1 (.slice a10 tb9.length c10) tb9.length (bvs tb9) * Hst tb fb rb rfb ⟨tb9, loose9, false⟩ F9 ⟨tb9, loose9, false⟩ F9 (pts g (.cells #[.int .i64 0, .int .i64 n, .slice ab b.length cb] 27) * emp)) (.bool true)) := fun w' s => hst_live w' s
            have loosec : ∀ w', St w0.heap.size w0 w' (row 5 1 (.slice a10 tb9.length c10) tb9.length (bvs tb9) * Hst tb fb rb rfb ⟨tb9, loose9, false⟩ F9 ⟨tb9, loose9, false⟩ F9 (pts g (.cells #[.int .i64 0, .int .i64 n, .slice ab b.length cb] 27) * emp)) → Calls Try.prog 17 #[.pointer (some ⟨tb, 0, none⟩)] w' (RetS w0.heap.size w0 (row 5 1 (.slice a10 tb9.length c10) tb9.length (bvs tb9) * Hst tb fb rb rfb ⟨tb9, loose9, false⟩ F9 ⟨tb9, loose9, false⟩ F9 (pts g (.cells #[.int .i64 0, .int .i64 n, .slice ab b.length cb] 27) * emp)) (.int .i64 loose9)) := fun w' s => hst_loose w' s
            refine RXl.exact (.pointer (some ⟨tb, 0, none⟩)) rfl rfl rfl rfl rfl (fun _ _ _ _ _ => rfl) ?_
            refine RXl.callr (.bool true) _ [.pointer (some ⟨tb, 0, none⟩)] [.tmp 120] _ rfl rfl rfl rfl rfl rfl (fun _ => rfl) (fun j τ w' hj hJ => live w' hJ) ?_
            refine RXl.exact (.pointer (some ⟨rb, 0, none⟩)) rfl rfl rfl rfl rfl (fun _ _ _ _ _ => rfl) ?_
            refine RXl.exact (.pointer (some ⟨rb, 0, none⟩)) rfl rfl rfl rfl rfl (fun j τ w' hj hJ => by simp [rho, upd, Spec.val, execOp, go_sem]) ?_
            refine RXl.exact (.pointer (some ⟨rb, 2, none⟩)) rfl rfl rfl rfl rfl (fun j τ w' hj hJ => by simp [rho, upd, Spec.val, execOp, go_sem]) ?_
            refine RXl.exact (.bool true) rfl rfl rfl rfl rfl (fun j τ w' hj hJ => by have c := (rd w' hJ).2.2; simp [rho, upd, Spec.val, execOp, go_sem, c]) ?_
            refine RXl.exact (.bool false) rfl rfl rfl rfl rfl (fun j τ w' hj hJ => by simp [rho, upd, Spec.val, execOp, go_sem]) ?_
            refine RXl.exact (.bool false) rfl rfl rfl rfl rfl (fun _ _ _ _ _ => rfl) ?_
            refine RXl.exact (.pointer (some ⟨rb, 0, none⟩)) rfl rfl rfl rfl rfl (fun _ _ _ _ _ => rfl) ?_
            refine RXl.exact (.pointer (some ⟨rb, 0, none⟩)) rfl rfl rfl rfl rfl (fun j τ w' hj hJ => by simp [rho, upd, Spec.val, execOp, go_sem]) ?_
            refine RXl.exact (.pointer (some ⟨rb, 2, none⟩)) rfl rfl rfl rfl rfl (fun j τ w' hj hJ => by simp [rho, upd, Spec.val, execOp, go_sem]) ?_
            refine RXl.exact (.bool true) rfl rfl rfl rfl rfl (fun j τ w' hj hJ => by have c := (rd w' hJ).2.2; simp [rho, upd, Spec.val, execOp, go_sem, c]) ?_
            refine RXl.exact (.bool true) rfl rfl rfl rfl rfl (fun _ _ _ _ _ => rfl) ?_
            refine RXl.exact (.int .i64 0) rfl rfl rfl rfl rfl (fun _ _ _ _ _ => rfl) ?_
            refine RXl.exact (.bool false) rfl rfl rfl rfl rfl (fun j τ w' hj hJ => by simp [rho, upd, Spec.val, execOp, go_sem]) ?_
            refine RXl.exact (.bool false) rfl rfl rfl rfl rfl (fun _ _ _ _ _ => rfl) ?_
            refine RXl.exact (.slice a10 tb9.length c10) rfl rfl rfl rfl rfl (fun _ _ _ _ _ => rfl) ?_
            refine RXl.exact (str tb9) rfl rfl rfl rfl rfl (fun j τ w' hj hJ => exec_convert rfl (run_str Try.underlying25 Try.underlying5 Try.underlying9 (St.bs hJ))) ?_
            refine RXl.exact (.pointer (some ⟨rb, 0, none⟩)) rfl rfl rfl rfl rfl (fun _ _ _ _ _ => rfl) ?_
            refine RXl.exact (.pointer (some ⟨rb, 0, none⟩)) rfl rfl rfl rfl rfl (fun j τ w' hj hJ => by simp [rho, upd, Spec.val, execOp, go_sem]) ?_
            refine RXl.exact (.pointer (some ⟨rb, 0, none⟩)) rfl rfl rfl rfl rfl (fun j τ w' hj hJ => by simp [rho, upd, Spec.val, execOp, go_sem]) ?_
            refine RXl.exact (str tb9) rfl rfl rfl rfl rfl (fun j τ w' hj hJ => by have c := (rd w' hJ).1; simp [rho, upd, Spec.val, execOp, go_sem, c]) ?_
            refine RXl.exact (.bool false) rfl rfl rfl rfl rfl (fun j τ w' hj hJ => by simp [rho, upd, Spec.val, execOp, go_sem]) ?_
            refine RXl.exact (.bool false) rfl rfl rfl rfl rfl (fun _ _ _ _ _ => rfl) ?_
            refine RXl.exact (.bool false) rfl rfl rfl rfl rfl (fun _ _ _ _ _ => rfl) ?_
            refine RXl.exact (.pointer (some ⟨tb, 0, none⟩)) rfl rfl rfl rfl rfl (fun _ _ _ _ _ => rfl) ?_
            refine RXl.callr (.int .i64 loose9) _ [.pointer (some ⟨tb, 0, none⟩)] [.tmp 145] _ rfl rfl rfl rfl rfl rfl (fun _ => rfl) (fun j τ w' hj hJ => loosec w' hJ) ?_
            refine RXl.exact (.pointer (some ⟨rb, 0, none⟩)) rfl rfl rfl rfl rfl (fun _ _ _ _ _ => rfl) ?_
            refine RXl.exact (.pointer (some ⟨rb, 0, none⟩)) rfl rfl rfl rfl rfl (fun j τ w' hj hJ => by simp [rho, upd, Spec.val, execOp, go_sem]) ?_
            refine RXl.exact (.pointer (some ⟨rb, 1, none⟩)) rfl rfl rfl rfl rfl (fun j τ w' hj hJ => by simp [rho, upd, Spec.val, execOp, go_sem]) ?_
            refine RXl.exact (.int .i64 loose9) rfl rfl rfl rfl rfl (fun j τ w' hj hJ => by have c := (rd w' hJ).2.1; simp [rho, upd, Spec.val, execOp, go_sem, c]) ?_
            refine RXl.exact (.bool false) rfl rfl rfl rfl rfl (fun j τ w' hj hJ => by simp [rho, upd, Spec.val, execOp, go_sem]) ?_
            refine RXl.exact (.bool false) rfl rfl rfl rfl rfl (fun _ _ _ _ _ => rfl) ?_
            refine RXl.exact (.bool false) rfl rfl rfl rfl rfl (fun _ _ _ _ _ => rfl) ?_
            refine RXl.exact (.bool false) rfl rfl rfl rfl rfl (fun _ _ _ _ _ => rfl) ?_
            refine RXl.exact (.bool false) rfl rfl rfl rfl rfl (fun _ _ _ _ _ => rfl) ?_
            refine RXl.exact (.pointer (some ⟨rb, 0, none⟩)) rfl rfl rfl rfl rfl (fun _ _ _ _ _ => rfl) ?_
            refine RXl.exact (.pointer (some ⟨rb, 0, none⟩)) rfl rfl rfl rfl rfl (fun j τ w' hj hJ => by simp [rho, upd, Spec.val, execOp, go_sem]) ?_
            refine RXl.exact (.pointer (some ⟨rb, 2, none⟩)) rfl rfl rfl rfl rfl (fun j τ w' hj hJ => by simp [rho, upd, Spec.val, execOp, go_sem]) ?_
            refine RXl.exact (.bool true) rfl rfl rfl rfl rfl (fun j τ w' hj hJ => by have c := (rd w' hJ).2.2; simp [rho, upd, Spec.val, execOp, go_sem, c]) ?_
            refine RXl.exact (.bool false) rfl rfl rfl rfl rfl (fun j τ w' hj hJ => by simp [rho, upd, Spec.val, execOp, go_sem]) ?_
            refine RXl.exact (.bool false) rfl rfl rfl rfl rfl (fun _ _ _ _ _ => rfl) ?_
            refine RXl.skip rfl rfl rfl rfl ?_
            refine RXl.skip rfl rfl rfl rfl ?_
            refine RXl.skip rfl rfl rfl rfl ?_
            refine RXl.skip rfl rfl rfl rfl ?_
            refine RXl.skip rfl rfl rfl rfl ?_
            refine RXl.skip rfl rfl rfl rfl ?_
            refine RXl.skip rfl rfl rfl rfl ?_
            refine RXl.exact ((Value.bool false)) rfl rfl rfl rfl rfl (fun _ _ _ _ _ => rfl) ?_
            refine RXl.exact ((Value.bool false)) rfl rfl rfl rfl rfl (fun _ _ _ _ _ => rfl) ?_
            refine RXl.nilx _ (Agr.upd _ _ (Agr.upd _ _ (Agr.upd _ _ (Agr.upd _ _ (Agr.upd _ _ (Agr.upd _ _ (Agr.upd _ _ (Agr.upd _ _ (Agr.upd _ _ (Agr.upd _ _ (Agr.upd _ _ (Agr.upd _ _ (Agr.upd _ _ (Agr.upd _ _ (Agr.upd _ _ (Agr.upd _ _ (Agr.upd _ _ (Agr.upd _ _ (Agr.upd _ _ (Agr.upd _ _ (Agr.upd _ _ (Agr.upd _ _ (Agr.upd _ _ (Agr.upd _ _ (Agr.upd _ _ (Agr.upd _ _ (Agr.upd _ _ (Agr.upd _ _ (Agr.upd _ _ (Agr.upd _ _ (Agr.upd _ _ (Agr.upd _ _ (Agr.upd _ _ (Agr.upd _ _ (Agr.upd _ _ (Agr.upd _ _ (Agr.upd _ _ (Agr.upd _ _ (Agr.upd _ _ (Agr.upd _ _ (Agr.upd _ _ (Agr.upd _ _ (Agr.upd _ _ (Agr.upd _ _ (Agr.upd _ _ (Agr.upd _ _ (Agr.upd _ _ (Agr.upd _ _ (Agr.upd _ _ (Agr.upd _ _ (Agr.upd _ _ (Agr.base _)))))))))))))))))))))))))))))))))))))))))))))))))))) fun w11 hJ => ?_
            obtain ⟨_, hJ⟩ := hJ
            simp only [Act.put, List.setIfInBounds_toArray, List.set_cons_succ, List.set_cons_zero]
            have S11 := Lib.hid (St.right hJ)
            clear hJ rd live loosec S10
            go_wp2_with fail
            go_roundw
            case rel => exact ⟨k + 1, by omega, by omega, by go_num, _, _, HOK9.out, HF9.out, (hst_y S11.out).right⟩
            case measure => simp [intOf]; omega
        · by_cases k1 : kd = 1
          · subst k1
            clear k0
            go_wp2_with fail
            have s7 : St w0.heap.size w0 (wr.alloc (.cells #[.int .i64 1, .int .i64 n, .slice ab b.length cb] 27)) (Hst tb fb rb rfb T F T F (pts wr.heap.size (.cells #[.int .i64 1, .int .i64 n, .slice ab b.length cb] 27) * emp)) := hst_x (S6.out.alloc (.cells #[.int .i64 1, .int .i64 n, .slice ab b.length cb] 27))
            generalize wr.alloc _ = w7 at s7 ⊢
            generalize wr.heap.size = g at s7 ⊢
            have cg : ∀ w' T F T2 F2, St w0.heap.size w0 w' (Hst tb fb rb rfb T F T2 F2 (pts g (.cells #[.int .i64 1, .int .i64 n, .slice ab b.length cb] 27) * emp)) → w'.cell? ⟨g, 1, none⟩ = some (.int .i64 n) ∧ w'.cell? ⟨g, 2, none⟩ = some (.slice ab b.length cb) := fun w' T F T2 F2 s => by
              exact ⟨hst_g s 1, hst_g s 2⟩
            have S7 := Lib.hid s7
            have CG := Lib.hid cg
            clear s7 cg S6 c0 c1 c2
            obtain ⟨e1, T1, ht⟩ : ∃ e1 T1, tSync (some F) T = (e1, T1) := ⟨(tSync (some F) T).1, (tSync (some F) T).2, rfl⟩
            have hok1 : T1.ok := by have q := sync_ok HOK.out (some F); rw [ht] at q; exact q
            have HT := Lib.hid ht
            have HOK1 := Lib.hid hok1
            clear ht hok1
            refine (hst_sync w7 HT.out S7.out).mono ?_
            rintro e w8 ⟨rfl, s8⟩
            have S8 := Lib.hid s8
            clear s8 S7
            go_wp2_with fail
            refine (hst_rsync w8 HT.out S8.out).mono ?_
            rintro e w9 ⟨rfl, s9⟩
            clear S8
            have S9 := Lib.hid (show St w0.heap.size w0 w9 (Hst tb fb rb rfb T1 F T1 F (pts g (.cells #[.int .i64 1, .int .i64 n, .slice ab b.length cb] 27) * emp)) from s9)
            have HOK9 := Lib.hid (show (T1).ok from HOK1.out)
            have HF9 := Lib.hid (show fits (F) from HFT.out)
            generalize T1 = T9 at S9 HOK9
            generalize F = F9 at S9 HF9
            clear s9 CG HT HOK1 HOK HFT
            go_wp2_with fail
            refine (bytes_calls T9 _ _ _ S9.out).mono ?_
            rintro e w10 ⟨a10, c10, he, s10⟩
            obtain ⟨tb9, loose9, gone9⟩ := T9
            cases gone9 with
            | true =>
              have he : e = .returned (.tuple #[.slice a10 0 c10, .int .i64 5]) := he
              subst he
              have S10 := Lib.hid (show St w0.heap.size w0 w10 (row 5 1 (.slice a10 0 c10) 0 (bvs []) * Hst tb fb rb rfb ⟨tb9, loose9, true⟩ F9 ⟨tb9, loose9, true⟩ F9 (pts g (.cells #[.int .i64 1, .int .i64 n, .slice ab b.length cb] 27) * emp)) from s10)
              clear s10 S9
              go_wp2_with fail
              refine wp_region_rx (fun j w => St w0.heap.size w0 w (row 5 1 (.slice a10 0 c10) 0 (bvs []) * Hst tb fb rb rfb ⟨tb9, loose9, true⟩ F9 ⟨tb9, loose9, true⟩ F9 (pts g (.cells #[.int .i64 1, .int .i64 n, .slice ab b.length cb] 27) * emp))) [] mixed (by kernel_rfl) (by kernel_rfl) S10.out.drew ?_
              have rd : ∀ w', St w0.heap.size w0 w' (row 5 1 (.slice a10 0 c10) 0 (bvs []) * Hst tb fb rb rfb ⟨tb9, loose9, true⟩ F9 ⟨tb9, loose9, true⟩ F9 (pts g (.cells #[.int .i64 1, .int .i64 n, .slice ab b.length cb] 27) * emp)) → w'.cell? ⟨rb, 0, none⟩ = some (str tb9) ∧ w'.cell? ⟨rb, 1, none⟩ = some (.int .i64 loose9) ∧ w'.cell? ⟨rb, 2, none⟩ = some (.bool false) := fun w' s => hst_rcell s
              have live : ∀ w', St w0.heap.size w0 w' (row 5 1 (.slice a10 0 c10) 0 (bvs []) * Hst tb fb rb rfb ⟨tb9, loose9, true⟩ F9 ⟨tb9, loose9, true⟩ F9 (pts g (.cells #[.int .i64 1, .int .i64 n, .slice ab b.length cb] 27) * emp)) → Calls Try.prog 32 #[.pointer (some ⟨tb, 0, none⟩)] w' (RetS w0.heap.size w0 (row 5 1 (.slice a10 0 c10) 0 (bvs []) * Hst tb fb rb rfb ⟨tb9, loose9, true⟩ F9 ⟨tb9, loose9, true⟩ F9 (pts g (.cells #[.int .i64 1, .int .i64 n, .slice ab b.length cb] 27) * emp)) (.bool false)) := fun w' s => hst_live w' s
              refine RXl.exact (.pointer (some ⟨tb, 0, none⟩)) rfl rfl rfl rfl rfl (fun _ _ _ _ _ => rfl) ?_
              refine RXl.callr (.bool false) _ [.pointer (some ⟨tb, 0, none⟩)] [.tmp 120] _ rfl rfl rfl rfl rfl rfl (fun _ => rfl) (fun j τ w' hj hJ => live w' hJ) ?_
              refine RXl.exact (.pointer (some ⟨rb, 0, none⟩)) rfl rfl rfl rfl rfl (fun _ _ _ _ _ => rfl) ?_
              refine RXl.exact (.pointer (some ⟨rb, 0, none⟩)) rfl rfl rfl rfl rfl (fun j τ w' hj hJ => by simp [rho, upd, Spec.val, execOp, go_sem]) ?_
              refine RXl.exact (.pointer (some ⟨rb, 2, none⟩)) rfl rfl rfl rfl rfl (fun j τ w' hj hJ => by simp [rho, upd, Spec.val, execOp, go_sem]) ?_
              refine RXl.exact (.bool false) rfl rfl rfl rfl rfl (fun j τ w' hj hJ => by have c := (rd w' hJ).2.2; simp [rho, upd, Spec.val, execOp, go_sem, c]) ?_
              refine RXl.exact (.bool false) rfl rfl rfl rfl rfl (fun j τ w' hj hJ => by simp [rho, upd, Spec.val, execOp, go_sem]) ?_
              refine RXl.exact (.bool false) rfl rfl rfl rfl rfl (fun _ _ _ _ _ => rfl) ?_
              refine RXl.exact (.pointer (some ⟨rb, 0, none⟩)) rfl rfl rfl rfl rfl (fun _ _ _ _ _ => rfl) ?_
              refine RXl.exact (.pointer (some ⟨rb, 0, none⟩)) rfl rfl rfl rfl rfl (fun j τ w' hj hJ => by simp [rho, upd, Spec.val, execOp, go_sem]) ?_
              refine RXl.exact (.pointer (some ⟨rb, 2, none⟩)) rfl rfl rfl rfl rfl (fun j τ w' hj hJ => by simp [rho, upd, Spec.val, execOp, go_sem]) ?_
              refine RXl.exact (.bool false) rfl rfl rfl rfl rfl (fun j τ w' hj hJ => by have c := (rd w' hJ).2.2; simp [rho, upd, Spec.val, execOp, go_sem, c]) ?_
              refine RXl.exact (.bool false) rfl rfl rfl rfl rfl (fun _ _ _ _ _ => rfl) ?_
              refine RXl.skip rfl rfl rfl rfl ?_
              refine RXl.skip rfl rfl rfl rfl ?_
              refine RXl.skip rfl rfl rfl rfl ?_
              refine RXl.skip rfl rfl rfl rfl ?_
              refine RXl.skip rfl rfl rfl rfl ?_
              refine RXl.skip rfl rfl rfl rfl ?_
              refine RXl.skip rfl rfl rfl rfl ?_
              refine RXl.skip rfl rfl rfl rfl ?_
              refine RXl.skip rfl rfl rfl rfl ?_
              refine RXl.skip rfl rfl rfl rfl ?_
              refine RXl.skip rfl rfl rfl rfl ?_
              refine RXl.skip rfl rfl rfl rfl ?_
              refine RXl.skip rfl rfl rfl rfl ?_
              refine RXl.skip rfl rfl rfl rfl ?_
              refine RXl.skip rfl rfl rfl rfl ?_
              refine RXl.skip rfl rfl rfl rfl ?_
              refine RXl.skip rfl rfl rfl rfl ?_
              refine RXl.skip rfl rfl rfl rfl ?_
              refine RXl.skip rfl rfl rfl rfl ?_
              refine RXl.skip rfl rfl rfl rfl ?_
              refine RXl.exact (.bool false) rfl rfl rfl rfl rfl (fun _ _ _ _ _ => rfl) ?_
              refine RXl.exact (.bool false) rfl rfl rfl rfl rfl (fun _ _ _ _ _ => rfl) ?_
              refine RXl.exact (.bool false) rfl rfl rfl rfl rfl (fun _ _ _ _ _ => rfl) ?_
              refine RXl.exact (.pointer (some ⟨rb, 0, none⟩)) rfl rfl rfl rfl rfl (fun _ _ _ _ _ => rfl) ?_
              refine RXl.exact (.pointer (some ⟨rb, 0, none⟩)) rfl rfl rfl rfl rfl (fun j τ w' hj hJ => by simp [rho, upd, Spec.val, execOp, go_sem]) ?_
              refine RXl.exact (.pointer (some ⟨rb, 2, none⟩)) rfl rfl rfl rfl rfl (fun j τ w' hj hJ => by simp [rho, upd, Spec.val, execOp, go_sem]) ?_
              refine RXl.exact (.bool false) rfl rfl rfl rfl rfl (fun j τ w' hj hJ => by have c := (rd w' hJ).2.2; simp [rho, upd, Spec.val, execOp, go_sem, c]) ?_
              refine RXl.exact (.bool true) rfl rfl rfl rfl rfl (fun j τ w' hj hJ => by simp [rho, upd, Spec.val, execOp, go_sem]) ?_
              refine RXl.exact (.bool true) rfl rfl rfl rfl rfl (fun _ _ _ _ _ => rfl) ?_
              refine RXl.exact (.int .i64 5) rfl rfl rfl rfl rfl (fun _ _ _ _ _ => rfl) ?_
              refine RXl.exact (.bool false) rfl rfl rfl rfl rfl (fun j τ w' hj hJ => by simp [rho, upd, Spec.val, execOp, go_sem]) ?_
              refine RXl.exact (.bool false) rfl rfl rfl rfl rfl (fun _ _ _ _ _ => rfl) ?_
              refine RXl.exact (.slice a10 0 c10) rfl rfl rfl rfl rfl (fun _ _ _ _ _ => rfl) ?_
              refine RXl.exact (.int .i64 0) rfl rfl rfl rfl rfl (fun j τ w' hj hJ => by simp [rho, upd, Spec.val, execOp, go_sem]) ?_
              refine RXl.exact (.bool false) rfl rfl rfl rfl rfl (fun j τ w' hj hJ => by simp [rho, upd, Spec.val, execOp, go_sem]) ?_
              refine RXl.exact (.bool false) rfl rfl rfl rfl rfl (fun _ _ _ _ _ => rfl) ?_
              refine RXl.exact (.bool false) rfl rfl rfl rfl rfl (fun _ _ _ _ _ => rfl) ?_
              refine RXl.exact (.bool false) rfl rfl rfl rfl rfl (fun _ _ _ _ _ => rfl) ?_
              refine RXl.nilx _ (Agr.upd _ _ (Agr.upd _ _ (Agr.upd _ _ (Agr.upd _ _ (Agr.upd _ _ (Agr.upd _ _ (Agr.upd _ _ (Agr.upd _ _ (Agr.upd _ _ (Agr.upd _ _ (Agr.upd _ _ (Agr.upd _ _ (Agr.upd _ _ (Agr.upd _ _ (Agr.upd _ _ (Agr.upd _ _ (Agr.upd _ _ (Agr.upd _ _ (Agr.upd _ _ (Agr.upd _ _ (Agr.upd _ _ (Agr.upd _ _ (Agr.upd _ _ (Agr.upd _ _ (Agr.upd _ _ (Agr.upd _ _ (Agr.upd _ _ (Agr.upd _ _ (Agr.upd _ _ (Agr.upd _ _ (Agr.upd _ _ (Agr.upd _ _ (Agr.upd _ _ (Agr.upd _ _ (Agr.upd _ _ (Agr.upd _ _ (Agr.upd _ _ (Agr.upd _ _ (Agr.upd _ _ (Agr.upd _ _ (Agr.upd _ _ (Agr.upd _ _ (Agr.upd _ _ (Agr.upd _ _ (Agr.upd _ _ (Agr.upd _ _ (Agr.upd _ _ (Agr.upd _ _ (Agr.upd _ _ (Agr.upd _ _ (Agr.upd _ _ (Agr.base _)))))))))))))))))))))))))))))))))))))))))))))))))))) fun w11 hJ => ?_
              obtain ⟨_, hJ⟩ := hJ
              simp only [Act.put, List.setIfInBounds_toArray, List.set_cons_succ, List.set_cons_zero]
              have S11 := Lib.hid (St.right hJ)
              clear hJ rd live S10
              go_wp2_with fail
              go_roundw
              case rel => exact ⟨k + 1, by omega, by omega, by go_num, _, _, HOK9.out, HF9.out, (hst_y S11.out).right⟩
              case measure => simp [intOf]; omega
            | false =>
              have he : e = .returned (.tuple #[.slice a10 tb9.length c10, .int .i64 0]) := he
              subst he
              have S10 := Lib.hid (show St w0.heap.size w0 w10 (row 5 1 (.slice a10 tb9.length c10) tb9.length (bvs tb9) * Hst tb fb rb rfb ⟨tb9, loose9, false⟩ F9 ⟨tb9, loose9, false⟩ F9 (pts g (.cells #[.int .i64 1, .int .i64 n, .slice ab b.length cb] 27) * emp)) from s10)
              clear s10 S9
              go_wp2_with fail
              refine wp_region_rx (fun j w => St w0.heap.size w0 w (row 5 1 (.slice a10 tb9.length c10) tb9.length (bvs tb9) * Hst tb fb rb rfb ⟨tb9, loose9, false⟩ F9 ⟨tb9, loose9, false⟩ F9 (pts g (.cells #[.int .i64 1, .int .i64 n, .slice ab b.length cb] 27) * emp))) [] mixed (by kernel_rfl) (by kernel_rfl) S10.out.drew ?_
              have rd : ∀ w', St w0.heap.size w0 w' (row 5 1 (.slice a10 tb9.length c10) tb9.length (bvs tb9) * Hst tb fb rb rfb ⟨tb9, loose9, false⟩ F9 ⟨tb9, loose9, false⟩ F9 (pts g (.cells #[.int .i64 1, .int .i64 n, .slice ab b.length cb] 27) * emp)) → w'.cell? ⟨rb, 0, none⟩ = some (str tb9) ∧ w'.cell? ⟨rb, 1, none⟩ = some (.int .i64 loose9) ∧ w'.cell? ⟨rb, 2, none⟩ = some (.bool true) := fun w' s => hst_rcell s
              have live : ∀ w', St w0.heap.size w0 w' (row 5 1 (.slice a10 tb9.length c10) tb9.length (bvs tb9) * Hst tb fb rb rfb ⟨tb9, loose9, false⟩ F9 ⟨tb9, loose9, false⟩ F9 (pts g (.cells #[.int .i64 1, .int .i64 n, .slice ab b.length cb] 27) * emp)) → Calls Try.prog 32 #[.pointer (some ⟨tb, 0, none⟩)] w' (RetS w0.heap.size w0 (row 5 1 (.slice a10 tb9.length c10) tb9.length (bvs tb9) * Hst tb fb rb rfb ⟨tb9, loose9, false⟩ F9 ⟨tb9, loose9, false⟩ F9 (pts g (.cells #[.int .i64 1, .int .i64 n, .slice ab b.length cb] 27) * emp)) (.bool true)) := fun w' s => hst_live w' s
              have loosec : ∀ w', St w0.heap.size w0 w' (row 5 1 (.slice a10 tb9.length c10) tb9.length (bvs tb9) * Hst tb fb rb rfb ⟨tb9, loose9, false⟩ F9 ⟨tb9, loose9, false⟩ F9 (pts g (.cells #[.int .i64 1, .int .i64 n, .slice ab b.length cb] 27) * emp)) → Calls Try.prog 17 #[.pointer (some ⟨tb, 0, none⟩)] w' (RetS w0.heap.size w0 (row 5 1 (.slice a10 tb9.length c10) tb9.length (bvs tb9) * Hst tb fb rb rfb ⟨tb9, loose9, false⟩ F9 ⟨tb9, loose9, false⟩ F9 (pts g (.cells #[.int .i64 1, .int .i64 n, .slice ab b.length cb] 27) * emp)) (.int .i64 loose9)) := fun w' s => hst_loose w' s
              refine RXl.exact (.pointer (some ⟨tb, 0, none⟩)) rfl rfl rfl rfl rfl (fun _ _ _ _ _ => rfl) ?_
              refine RXl.callr (.bool true) _ [.pointer (some ⟨tb, 0, none⟩)] [.tmp 120] _ rfl rfl rfl rfl rfl rfl (fun _ => rfl) (fun j τ w' hj hJ => live w' hJ) ?_
              refine RXl.exact (.pointer (some ⟨rb, 0, none⟩)) rfl rfl rfl rfl rfl (fun _ _ _ _ _ => rfl) ?_
              refine RXl.exact (.pointer (some ⟨rb, 0, none⟩)) rfl rfl rfl rfl rfl (fun j τ w' hj hJ => by simp [rho, upd, Spec.val, execOp, go_sem]) ?_
              refine RXl.exact (.pointer (some ⟨rb, 2, none⟩)) rfl rfl rfl rfl rfl (fun j τ w' hj hJ => by simp [rho, upd, Spec.val, execOp, go_sem]) ?_
              refine RXl.exact (.bool true) rfl rfl rfl rfl rfl (fun j τ w' hj hJ => by have c := (rd w' hJ).2.2; simp [rho, upd, Spec.val, execOp, go_sem, c]) ?_
              refine RXl.exact (.bool false) rfl rfl rfl rfl rfl (fun j τ w' hj hJ => by simp [rho, upd, Spec.val, execOp, go_sem]) ?_
              refine RXl.exact (.bool false) rfl rfl rfl rfl rfl (fun _ _ _ _ _ => rfl) ?_
              refine RXl.exact (.pointer (some ⟨rb, 0, none⟩)) rfl rfl rfl rfl rfl (fun _ _ _ _ _ => rfl) ?_
              refine RXl.exact (.pointer (some ⟨rb, 0, none⟩)) rfl rfl rfl rfl rfl (fun j τ w' hj hJ => by simp [rho, upd, Spec.val, execOp, go_sem]) ?_
              refine RXl.exact (.pointer (some ⟨rb, 2, none⟩)) rfl rfl rfl rfl rfl (fun j τ w' hj hJ => by simp [rho, upd, Spec.val, execOp, go_sem]) ?_
              refine RXl.exact (.bool true) rfl rfl rfl rfl rfl (fun j τ w' hj hJ => by have c := (rd w' hJ).2.2; simp [rho, upd, Spec.val, execOp, go_sem, c]) ?_
              refine RXl.exact (.bool true) rfl rfl rfl rfl rfl (fun _ _ _ _ _ => rfl) ?_
              refine RXl.exact (.int .i64 0) rfl rfl rfl rfl rfl (fun _ _ _ _ _ => rfl) ?_
              refine RXl.exact (.bool false) rfl rfl rfl rfl rfl (fun j τ w' hj hJ => by simp [rho, upd, Spec.val, execOp, go_sem]) ?_
              refine RXl.exact (.bool false) rfl rfl rfl rfl rfl (fun _ _ _ _ _ => rfl) ?_
              refine RXl.exact (.slice a10 tb9.length c10) rfl rfl rfl rfl rfl (fun _ _ _ _ _ => rfl) ?_
              refine RXl.exact (str tb9) rfl rfl rfl rfl rfl (fun j τ w' hj hJ => exec_convert rfl (run_str Try.underlying25 Try.underlying5 Try.underlying9 (St.bs hJ))) ?_
              refine RXl.exact (.pointer (some ⟨rb, 0, none⟩)) rfl rfl rfl rfl rfl (fun _ _ _ _ _ => rfl) ?_
              refine RXl.exact (.pointer (some ⟨rb, 0, none⟩)) rfl rfl rfl rfl rfl (fun j τ w' hj hJ => by simp [rho, upd, Spec.val, execOp, go_sem]) ?_
              refine RXl.exact (.pointer (some ⟨rb, 0, none⟩)) rfl rfl rfl rfl rfl (fun j τ w' hj hJ => by simp [rho, upd, Spec.val, execOp, go_sem]) ?_
              refine RXl.exact (str tb9) rfl rfl rfl rfl rfl (fun j τ w' hj hJ => by have c := (rd w' hJ).1; simp [rho, upd, Spec.val, execOp, go_sem, c]) ?_
              refine RXl.exact (.bool false) rfl rfl rfl rfl rfl (fun j τ w' hj hJ => by simp [rho, upd, Spec.val, execOp, go_sem]) ?_
              refine RXl.exact (.bool false) rfl rfl rfl rfl rfl (fun _ _ _ _ _ => rfl) ?_
              refine RXl.exact (.bool false) rfl rfl rfl rfl rfl (fun _ _ _ _ _ => rfl) ?_
              refine RXl.exact (.pointer (some ⟨tb, 0, none⟩)) rfl rfl rfl rfl rfl (fun _ _ _ _ _ => rfl) ?_
              refine RXl.callr (.int .i64 loose9) _ [.pointer (some ⟨tb, 0, none⟩)] [.tmp 145] _ rfl rfl rfl rfl rfl rfl (fun _ => rfl) (fun j τ w' hj hJ => loosec w' hJ) ?_
              refine RXl.exact (.pointer (some ⟨rb, 0, none⟩)) rfl rfl rfl rfl rfl (fun _ _ _ _ _ => rfl) ?_
              refine RXl.exact (.pointer (some ⟨rb, 0, none⟩)) rfl rfl rfl rfl rfl (fun j τ w' hj hJ => by simp [rho, upd, Spec.val, execOp, go_sem]) ?_
              refine RXl.exact (.pointer (some ⟨rb, 1, none⟩)) rfl rfl rfl rfl rfl (fun j τ w' hj hJ => by simp [rho, upd, Spec.val, execOp, go_sem]) ?_
              refine RXl.exact (.int .i64 loose9) rfl rfl rfl rfl rfl (fun j τ w' hj hJ => by have c := (rd w' hJ).2.1; simp [rho, upd, Spec.val, execOp, go_sem, c]) ?_
              refine RXl.exact (.bool false) rfl rfl rfl rfl rfl (fun j τ w' hj hJ => by simp [rho, upd, Spec.val, execOp, go_sem]) ?_
              refine RXl.exact (.bool false) rfl rfl rfl rfl rfl (fun _ _ _ _ _ => rfl) ?_
              refine RXl.exact (.bool false) rfl rfl rfl rfl rfl (fun _ _ _ _ _ => rfl) ?_
              refine RXl.exact (.bool false) rfl rfl rfl rfl rfl (fun _ _ _ _ _ => rfl) ?_
              refine RXl.exact (.bool false) rfl rfl rfl rfl rfl (fun _ _ _ _ _ => rfl) ?_
              refine RXl.exact (.pointer (some ⟨rb, 0, none⟩)) rfl rfl rfl rfl rfl (fun _ _ _ _ _ => rfl) ?_
              refine RXl.exact (.pointer (some ⟨rb, 0, none⟩)) rfl rfl rfl rfl rfl (fun j τ w' hj hJ => by simp [rho, upd, Spec.val, execOp, go_sem]) ?_
              refine RXl.exact (.pointer (some ⟨rb, 2, none⟩)) rfl rfl rfl rfl rfl (fun j τ w' hj hJ => by simp [rho, upd, Spec.val, execOp, go_sem]) ?_
              refine RXl.exact (.bool true) rfl rfl rfl rfl rfl (fun j τ w' hj hJ => by have c := (rd w' hJ).2.2; simp [rho, upd, Spec.val, execOp, go_sem, c]) ?_
              refine RXl.exact (.bool false) rfl rfl rfl rfl rfl (fun j τ w' hj hJ => by simp [rho, upd, Spec.val, execOp, go_sem]) ?_
              refine RXl.exact (.bool false) rfl rfl rfl rfl rfl (fun _ _ _ _ _ => rfl) ?_
              refine RXl.skip rfl rfl rfl rfl ?_
              refine RXl.skip rfl rfl rfl rfl ?_
              refine RXl.skip rfl rfl rfl rfl ?_
              refine RXl.skip rfl rfl rfl rfl ?_
              refine RXl.skip rfl rfl rfl rfl ?_
              refine RXl.skip rfl rfl rfl rfl ?_
              refine RXl.skip rfl rfl rfl rfl ?_
              refine RXl.exact ((Value.bool false)) rfl rfl rfl rfl rfl (fun _ _ _ _ _ => rfl) ?_
              refine RXl.exact ((Value.bool false)) rfl rfl rfl rfl rfl (fun _ _ _ _ _ => rfl) ?_
              refine RXl.nilx _ (Agr.upd _ _ (Agr.upd _ _ (Agr.upd _ _ (Agr.upd _ _ (Agr.upd _ _ (Agr.upd _ _ (Agr.upd _ _ (Agr.upd _ _ (Agr.upd _ _ (Agr.upd _ _ (Agr.upd _ _ (Agr.upd _ _ (Agr.upd _ _ (Agr.upd _ _ (Agr.upd _ _ (Agr.upd _ _ (Agr.upd _ _ (Agr.upd _ _ (Agr.upd _ _ (Agr.upd _ _ (Agr.upd _ _ (Agr.upd _ _ (Agr.upd _ _ (Agr.upd _ _ (Agr.upd _ _ (Agr.upd _ _ (Agr.upd _ _ (Agr.upd _ _ (Agr.upd _ _ (Agr.upd _ _ (Agr.upd _ _ (Agr.upd _ _ (Agr.upd _ _ (Agr.upd _ _ (Agr.upd _ _ (Agr.upd _ _ (Agr.upd _ _ (Agr.upd _ _ (Agr.upd _ _ (Agr.upd _ _ (Agr.upd _ _ (Agr.upd _ _ (Agr.upd _ _ (Agr.upd _ _ (Agr.upd _ _ (Agr.upd _ _ (Agr.upd _ _ (Agr.upd _ _ (Agr.upd _ _ (Agr.upd _ _ (Agr.upd _ _ (Agr.base _)))))))))))))))))))))))))))))))))))))))))))))))))))) fun w11 hJ => ?_
              obtain ⟨_, hJ⟩ := hJ
              simp only [Act.put, List.setIfInBounds_toArray, List.set_cons_succ, List.set_cons_zero]
              have S11 := Lib.hid (St.right hJ)
              clear hJ rd live loosec S10
              go_wp2_with fail
              go_roundw
              case rel => exact ⟨k + 1, by omega, by omega, by go_num, _, _, HOK9.out, HF9.out, (hst_y S11.out).right⟩
              case measure => simp [intOf]; omega
          · by_cases k2 : kd = 2
            · subst k2
              clear k0 k1
              go_wp2_with fail
              have s7 : St w0.heap.size w0 (wr.alloc (.cells #[.int .i64 2, .int .i64 n, .slice ab b.length cb] 27)) (Hst tb fb rb rfb T F T F (pts wr.heap.size (.cells #[.int .i64 2, .int .i64 n, .slice ab b.length cb] 27) * emp)) := hst_x (S6.out.alloc (.cells #[.int .i64 2, .int .i64 n, .slice ab b.length cb] 27))
              generalize wr.alloc _ = w7 at s7 ⊢
              generalize wr.heap.size = g at s7 ⊢
              have cg : ∀ w' T F T2 F2, St w0.heap.size w0 w' (Hst tb fb rb rfb T F T2 F2 (pts g (.cells #[.int .i64 2, .int .i64 n, .slice ab b.length cb] 27) * emp)) → w'.cell? ⟨g, 1, none⟩ = some (.int .i64 n) ∧ w'.cell? ⟨g, 2, none⟩ = some (.slice ab b.length cb) := fun w' T F T2 F2 s => by
                exact ⟨hst_g s 1, hst_g s 2⟩
              have S7 := Lib.hid s7
              have CG := Lib.hid cg
              clear s7 cg S6 c0 c1 c2
              obtain ⟨e1, T1, F1, ht⟩ : ∃ e1 T1 F1, tCut (some F) T n = (e1, some F1, T1) := ⟨(tCut (some F) T n).1, (tCut (some F) T n).2.2, fu1 F (tCut (some F) T n).2.1, by rw [← cut_some]⟩
              have hok1 : T1.ok := by have q := cut_ok HOK.out (some F) n; rw [ht] at q; exact q
              have hft1 : fits F1 := by have q := cut_fits HFT.out T n; rw [ht] at q; exact q
              have HT := Lib.hid ht
              have HOK1 := Lib.hid hok1
              have HFT1 := Lib.hid hft1
              clear ht hok1 hft1
              refine wp_region_rx (fun j w => St w0.heap.size w0 w (Hst tb fb rb rfb (if j = 0 then T else T1) (if j = 0 then F else F1) (if j ≤ 1 then T else T1) (if j ≤ 1 then F else F1) (pts g (.cells #[.int .i64 2, .int .i64 n, .slice ab b.length cb] 27) * emp))) [3, 7] mixed (by kernel_rfl) (by kernel_rfl) S7.out.drew ?_
              refine RXl.exact (.pointer (some ⟨tb, 0, none⟩)) rfl rfl rfl rfl rfl (fun _ _ _ _ _ => rfl) ?_
              refine RXl.exact (.pointer (some ⟨g, 1, none⟩)) rfl rfl rfl rfl rfl (fun j τ w' hj hJ => by simp [rho, upd, Spec.val, execOp, go_sem]) ?_
              refine RXl.exact (.int .i64 n) rfl rfl rfl rfl rfl (fun j τ w' hj hJ => by have c := (CG.out w' _ _ _ _ hJ).1; simp [rho, upd, Spec.val, execOp, go_sem, c]) ?_
              refine RXl.callj 0 (.int .i64 e1) _ [.pointer (some ⟨tb, 0, none⟩), .int .i64 n] [.tmp 83, .tmp 85] _ rfl rfl rfl rfl rfl rfl (fun _ => rfl) (fun w' hJ => hst_cut w' HT.out (show St w0.heap.size w0 w' (Hst tb fb rb rfb T F T F _) from hJ)) ?_
              refine RXl.exact (.pointer (some ⟨rb, 0, none⟩)) rfl rfl rfl rfl rfl (fun _ _ _ _ _ => rfl) ?_
              refine RXl.exact (.pointer (some ⟨g, 1, none⟩)) rfl rfl rfl rfl rfl (fun j τ w' hj hJ => by simp [rho, upd, Spec.val, execOp, go_sem]) ?_
              refine RXl.exact (.int .i64 n) rfl rfl rfl rfl rfl (fun j τ w' hj hJ => by have c := (CG.out w' _ _ _ _ hJ).1; simp [rho, upd, Spec.val, execOp, go_sem, c]) ?_
              refine RXl.callj 1 (.int .i64 e1) _ [.pointer (some ⟨rb, 0, none⟩), .int .i64 n] [.tmp 87, .tmp 89] _ rfl rfl rfl rfl rfl rfl (fun _ => rfl) (fun w' hJ => hst_rcut w' HT.out HOK.out HFT.out (show St w0.heap.size w0 w' (Hst tb fb rb rfb T1 F1 T F _) from hJ)) ?_
              refine RXl.exact (.bool false) rfl rfl rfl rfl rfl (fun j τ w' hj hJ => by simp [rho, upd, Spec.val, execOp, go_sem]) ?_
              refine RXl.nilx _ (Agr.upd _ _ (Agr.upd _ _ (Agr.upd _ _ (Agr.upd _ _ (Agr.upd _ _ (Agr.upd _ _ (Agr.upd _ _ (Agr.upd _ _ (Agr.upd _ _ (Agr.base _)))))))))) fun w8 hJ => ?_
              obtain ⟨_, hJ⟩ := hJ
              simp only [Act.put, List.setIfInBounds_toArray, List.set_cons_succ, List.set_cons_zero]
              have s8 : St w0.heap.size w0 w8 (Hst tb fb rb rfb T1 F1 T1 F1 (pts g (.cells #[.int .i64 2, .int .i64 n, .slice ab b.length cb] 27) * emp)) := hJ
              clear hJ
              have S9 := Lib.hid (show St w0.heap.size w0 w8 (Hst tb fb rb rfb T1 F1 T1 F1 (pts g (.cells #[.int .i64 2, .int .i64 n, .slice ab b.length cb] 27) * emp)) from s8)
              have HOK9 := Lib.hid (show (T1).ok from HOK1.out)
              have HF9 := Lib.hid (show fits (F1) from HFT1.out)
              generalize T1 = T9 at S9 HOK9
              generalize F1 = F9 at S9 HF9
              clear s8 S7 CG HT HOK1 HFT1 HOK HFT
              go_wp2_with fail
              refine (bytes_calls T9 _ _ _ S9.out).mono ?_
              rintro e w10 ⟨a10, c10, he, s10⟩
              obtain ⟨tb9, loose9, gone9⟩ := T9
              cases gone9 with
              | true =>
                have he : e = .returned (.tuple #[.slice a10 0 c10, .int .i64 5]) := he
                subst he
                have S10 := Lib.hid (show St w0.heap.size w0 w10 (row 5 1 (.slice a10 0 c10) 0 (bvs []) * Hst tb fb rb rfb ⟨tb9, loose9, true⟩ F9 ⟨tb9, loose9, true⟩ F9 (pts g (.cells #[.int .i64 2, .int .i64 n, .slice ab b.length cb] 27) * emp)) from s10)
                clear s10 S9
                go_wp2_with fail
                refine wp_region_rx (fun j w => St w0.heap.size w0 w (row 5 1 (.slice a10 0 c10) 0 (bvs []) * Hst tb fb rb rfb ⟨tb9, loose9, true⟩ F9 ⟨tb9, loose9, true⟩ F9 (pts g (.cells #[.int .i64 2, .int .i64 n, .slice ab b.length cb] 27) * emp))) [] mixed (by kernel_rfl) (by kernel_rfl) S10.out.drew ?_
                have rd : ∀ w', St w0.heap.size w0 w' (row 5 1 (.slice a10 0 c10) 0 (bvs []) * Hst tb fb rb rfb ⟨tb9, loose9, true⟩ F9 ⟨tb9, loose9, true⟩ F9 (pts g (.cells #[.int .i64 2, .int .i64 n, .slice ab b.length cb] 27) * emp)) → w'.cell? ⟨rb, 0, none⟩ = some (str tb9) ∧ w'.cell? ⟨rb, 1, none⟩ = some (.int .i64 loose9) ∧ w'.cell? ⟨rb, 2, none⟩ = some (.bool false) := fun w' s => hst_rcell s
                have live : ∀ w', St w0.heap.size w0 w' (row 5 1 (.slice a10 0 c10) 0 (bvs []) * Hst tb fb rb rfb ⟨tb9, loose9, true⟩ F9 ⟨tb9, loose9, true⟩ F9 (pts g (.cells #[.int .i64 2, .int .i64 n, .slice ab b.length cb] 27) * emp)) → Calls Try.prog 32 #[.pointer (some ⟨tb, 0, none⟩)] w' (RetS w0.heap.size w0 (row 5 1 (.slice a10 0 c10) 0 (bvs []) * Hst tb fb rb rfb ⟨tb9, loose9, true⟩ F9 ⟨tb9, loose9, true⟩ F9 (pts g (.cells #[.int .i64 2, .int .i64 n, .slice ab b.length cb] 27) * emp)) (.bool false)) := fun w' s => hst_live w' s
                refine RXl.exact (.pointer (some ⟨tb, 0, none⟩)) rfl rfl rfl rfl rfl (fun _ _ _ _ _ => rfl) ?_
                refine RXl.callr (.bool false) _ [.pointer (some ⟨tb, 0, none⟩)] [.tmp 120] _ rfl rfl rfl rfl rfl rfl (fun _ => rfl) (fun j τ w' hj hJ => live w' hJ) ?_
                refine RXl.exact (.pointer (some ⟨rb, 0, none⟩)) rfl rfl rfl rfl rfl (fun _ _ _ _ _ => rfl) ?_
                refine RXl.exact (.pointer (some ⟨rb, 0, none⟩)) rfl rfl rfl rfl rfl (fun j τ w' hj hJ => by simp [rho, upd, Spec.val, execOp, go_sem]) ?_
                refine RXl.exact (.pointer (some ⟨rb, 2, none⟩)) rfl rfl rfl rfl rfl (fun j τ w' hj hJ => by simp [rho, upd, Spec.val, execOp, go_sem]) ?_
                refine RXl.exact (.bool false) rfl rfl rfl rfl rfl (fun j τ w' hj hJ => by have c := (rd w' hJ).2.2; simp [rho, upd, Spec.val, execOp, go_sem, c]) ?_
                refine RXl.exact (.bool false) rfl rfl rfl rfl rfl (fun j τ w' hj hJ => by simp [rho, upd, Spec.val, execOp, go_sem]) ?_
                refine RXl.exact (.bool false) rfl rfl rfl rfl rfl (fun _ _ _ _ _ => rfl) ?_
                refine RXl.exact (.pointer (some ⟨rb, 0, none⟩)) rfl rfl rfl rfl rfl (fun _ _ _ _ _ => rfl) ?_
                refine RXl.exact (.pointer (some ⟨rb, 0, none⟩)) rfl rfl rfl rfl rfl (fun j τ w' hj hJ => by simp [rho, upd, Spec.val, execOp, go_sem]) ?_
                refine RXl.exact (.pointer (some ⟨rb, 2, none⟩)) rfl rfl rfl rfl rfl (fun j τ w' hj hJ => by simp [rho, upd, Spec.val, execOp, go_sem]) ?_
                refine RXl.exact (.bool false) rfl rfl rfl rfl rfl (fun j τ w' hj hJ => by have c := (rd w' hJ).2.2; simp [rho, upd, Spec.val, execOp, go_sem, c]) ?_
                refine RXl.exact (.bool false) rfl rfl rfl rfl rfl (fun _ _ _ _ _ => rfl) ?_
                refine RXl.skip rfl rfl rfl rfl ?_
                refine RXl.skip rfl rfl rfl rfl ?_
                refine RXl.skip rfl rfl rfl rfl ?_
                refine RXl.skip rfl rfl rfl rfl ?_
                refine RXl.skip rfl rfl rfl rfl ?_
                refine RXl.skip rfl rfl rfl rfl ?_
                refine RXl.skip rfl rfl rfl rfl ?_
                refine RXl.skip rfl rfl rfl rfl ?_
                refine RXl.skip rfl rfl rfl rfl ?_
                refine RXl.skip rfl rfl rfl rfl ?_
                refine RXl.skip rfl rfl rfl rfl ?_
                refine RXl.skip rfl rfl rfl rfl ?_
                refine RXl.skip rfl rfl rfl rfl ?_
                refine RXl.skip rfl rfl rfl rfl ?_
                refine RXl.skip rfl rfl rfl rfl ?_
                refine RXl.skip rfl rfl rfl rfl ?_
                refine RXl.skip rfl rfl rfl rfl ?_
                refine RXl.skip rfl rfl rfl rfl ?_
                refine RXl.skip rfl rfl rfl rfl ?_
                refine RXl.skip rfl rfl rfl rfl ?_
                refine RXl.exact (.bool false) rfl rfl rfl rfl rfl (fun _ _ _ _ _ => rfl) ?_
                refine RXl.exact (.bool false) rfl rfl rfl rfl rfl (fun _ _ _ _ _ => rfl) ?_
                refine RXl.exact (.bool false) rfl rfl rfl rfl rfl (fun _ _ _ _ _ => rfl) ?_
                refine RXl.exact (.pointer (some ⟨rb, 0, none⟩)) rfl rfl rfl rfl rfl (fun _ _ _ _ _ => rfl) ?_
                refine RXl.exact (.pointer (some ⟨rb, 0, none⟩)) rfl rfl rfl rfl rfl (fun j τ w' hj hJ => by simp [rho, upd, Spec.val, execOp, go_sem]) ?_
                refine RXl.exact (.pointer (some ⟨rb, 2, none⟩)) rfl rfl rfl rfl rfl (fun j τ w' hj hJ => by simp [rho, upd, Spec.val, execOp, go_sem]) ?_
                refine RXl.exact (.bool false) rfl rfl rfl rfl rfl (fun j τ w' hj hJ => by have c := (rd w' hJ).2.2; simp [rho, upd, Spec.val, execOp, go_sem, c]) ?_
                refine RXl.exact (.bool true) rfl rfl rfl rfl rfl (fun j τ w' hj hJ => by simp [rho, upd, Spec.val, execOp, go_sem]) ?_
                refine RXl.exact (.bool true) rfl rfl rfl rfl rfl (fun _ _ _ _ _ => rfl) ?_
                refine RXl.exact (.int .i64 5) rfl rfl rfl rfl rfl (fun _ _ _ _ _ => rfl) ?_
                refine RXl.exact (.bool false) rfl rfl rfl rfl rfl (fun j τ w' hj hJ => by simp [rho, upd, Spec.val, execOp, go_sem]) ?_
                refine RXl.exact (.bool false) rfl rfl rfl rfl rfl (fun _ _ _ _ _ => rfl) ?_
                refine RXl.exact (.slice a10 0 c10) rfl rfl rfl rfl rfl (fun _ _ _ _ _ => rfl) ?_
                refine RXl.exact (.int .i64 0) rfl rfl rfl rfl rfl (fun j τ w' hj hJ => by simp [rho, upd, Spec.val, execOp, go_sem]) ?_
                refine RXl.exact (.bool false) rfl rfl rfl rfl rfl (fun j τ w' hj hJ => by simp [rho, upd, Spec.val, execOp, go_sem]) ?_
                refine RXl.exact (.bool false) rfl rfl rfl rfl rfl (fun _ _ _ _ _ => rfl) ?_
                refine RXl.exact (.bool false) rfl rfl rfl rfl rfl (fun _ _ _ _ _ => rfl) ?_
                refine RXl.exact (.bool false) rfl rfl rfl rfl rfl (fun _ _ _ _ _ => rfl) ?_
                refine RXl.nilx _ (Agr.upd _ _ (Agr.upd _ _ (Agr.upd _ _ (Agr.upd _ _ (Agr.upd _ _ (Agr.upd _ _ (Agr.upd _ _ (Agr.upd _ _ (Agr.upd _ _ (Agr.upd _ _ (Agr.upd _ _ (Agr.upd _ _ (Agr.upd _ _ (Agr.upd _ _ (Agr.upd _ _ (Agr.upd _ _ (Agr.upd _ _ (Agr.upd _ _ (Agr.upd _ _ (Agr.upd _ _ (Agr.upd _ _ (Agr.upd _ _ (Agr.upd _ _ (Agr.upd _ _ (Agr.upd _ _ (Agr.upd _ _ (Agr.upd _ _ (Agr.upd _ _ (Agr.upd _ _ (Agr.upd _ _ (Agr.upd _ _ (Agr.upd _ _ (Agr.upd _ _ (Agr.upd _ _ (Agr.upd _ _ (Agr.upd _ _ (Agr.upd _ _ (Agr.upd _ _ (Agr.upd _ _ (Agr.upd _ _ (Agr.upd _ _ (Agr.upd _ _ (Agr.upd _ _ (Agr.upd _ _ (Agr.upd _ _ (Agr.upd _ _ (Agr.upd _ _ (Agr.upd _ _ (Agr.upd _ _ (Agr.upd _ _ (Agr.upd _ _ (Agr.base _)))))))))))))))))))))))))))))))))))))))))))))))))))) fun w11 hJ => ?_
                obtain ⟨_, hJ⟩ := hJ
                simp only [Act.put, List.setIfInBounds_toArray, List.set_cons_succ, List.set_cons_zero]
                have S11 := Lib.hid (St.right hJ)
                clear hJ rd live S10
                go_wp2_with fail
                go_roundw
                case rel => exact ⟨k + 1, by omega, by omega, by go_num, _, _, HOK9.out, HF9.out, (hst_y S11.out).right⟩
                case measure => simp [intOf]; omega
              | false =>
                have he : e = .returned (.tuple #[.slice a10 tb9.length c10, .int .i64 0]) := he
                subst he
                have S10 := Lib.hid (show St w0.heap.size w0 w10 (row 5 1 (.slice a10 tb9.length c10) tb9.length (bvs tb9) * Hst tb fb rb rfb ⟨tb9, loose9, false⟩ F9 ⟨tb9, loose9, false⟩ F9 (pts g (.cells #[.int .i64 2, .int .i64 n, .slice ab b.length cb] 27) * emp)) from s10)
                clear s10 S9
                go_wp2_with fail
                refine wp_region_rx (fun j w => St w0.heap.size w0 w (row 5 1 (.slice a10 tb9.length c10) tb9.length (bvs tb9) * Hst tb fb rb rfb ⟨tb9, loose9, false⟩ F9 ⟨tb9, loose9, false⟩ F9 (pts g (.cells #[.int .i64 2, .int .i64 n, .slice ab b.length cb] 27) * emp))) [] mixed (by kernel_rfl) (by kernel_rfl) S10.out.drew ?_
                have rd : ∀ w', St w0.heap.size w0 w' (row 5 1 (.slice a10 tb9.length c10) tb9.length (bvs tb9) * Hst tb fb rb rfb ⟨tb9, loose9, false⟩ F9 ⟨tb9, loose9, false⟩ F9 (pts g (.cells #[.int .i64 2, .int .i64 n, .slice ab b.length cb] 27) * emp)) → w'.cell? ⟨rb, 0, none⟩ = some (str tb9) ∧ w'.cell? ⟨rb, 1, none⟩ = some (.int .i64 loose9) ∧ w'.cell? ⟨rb, 2, none⟩ = some (.bool true) := fun w' s => hst_rcell s
                have live : ∀ w', St w0.heap.size w0 w' (row 5 1 (.slice a10 tb9.length c10) tb9.length (bvs tb9) * Hst tb fb rb rfb ⟨tb9, loose9, false⟩ F9 ⟨tb9, loose9, false⟩ F9 (pts g (.cells #[.int .i64 2, .int .i64 n, .slice ab b.length cb] 27) * emp)) → Calls Try.prog 32 #[.pointer (some ⟨tb, 0, none⟩)] w' (RetS w0.heap.size w0 (row 5 1 (.slice a10 tb9.length c10) tb9.length (bvs tb9) * Hst tb fb rb rfb ⟨tb9, loose9, false⟩ F9 ⟨tb9, loose9, false⟩ F9 (pts g (.cells #[.int .i64 2, .int .i64 n, .slice ab b.length cb] 27) * emp)) (.bool true)) := fun w' s => hst_live w' s
                have loosec : ∀ w', St w0.heap.size w0 w' (row 5 1 (.slice a10 tb9.length c10) tb9.length (bvs tb9) * Hst tb fb rb rfb ⟨tb9, loose9, false⟩ F9 ⟨tb9, loose9, false⟩ F9 (pts g (.cells #[.int .i64 2, .int .i64 n, .slice ab b.length cb] 27) * emp)) → Calls Try.prog 17 #[.pointer (some ⟨tb, 0, none⟩)] w' (RetS w0.heap.size w0 (row 5 1 (.slice a10 tb9.length c10) tb9.length (bvs tb9) * Hst tb fb rb rfb ⟨tb9, loose9, false⟩ F9 ⟨tb9, loose9, false⟩ F9 (pts g (.cells #[.int .i64 2, .int .i64 n, .slice ab b.length cb] 27) * emp)) (.int .i64 loose9)) := fun w' s => hst_loose w' s
                refine RXl.exact (.pointer (some ⟨tb, 0, none⟩)) rfl rfl rfl rfl rfl (fun _ _ _ _ _ => rfl) ?_
                refine RXl.callr (.bool true) _ [.pointer (some ⟨tb, 0, none⟩)] [.tmp 120] _ rfl rfl rfl rfl rfl rfl (fun _ => rfl) (fun j τ w' hj hJ => live w' hJ) ?_
                refine RXl.exact (.pointer (some ⟨rb, 0, none⟩)) rfl rfl rfl rfl rfl (fun _ _ _ _ _ => rfl) ?_
                refine RXl.exact (.pointer (some ⟨rb, 0, none⟩)) rfl rfl rfl rfl rfl (fun j τ w' hj hJ => by simp [rho, upd, Spec.val, execOp, go_sem]) ?_
                refine RXl.exact (.pointer (some ⟨rb, 2, none⟩)) rfl rfl rfl rfl rfl (fun j τ w' hj hJ => by simp [rho, upd, Spec.val, execOp, go_sem]) ?_
                refine RXl.exact (.bool true) rfl rfl rfl rfl rfl (fun j τ w' hj hJ => by have c := (rd w' hJ).2.2; simp [rho, upd, Spec.val, execOp, go_sem, c]) ?_
                refine RXl.exact (.bool false) rfl rfl rfl rfl rfl (fun j τ w' hj hJ => by simp [rho, upd, Spec.val, execOp, go_sem]) ?_
                refine RXl.exact (.bool false) rfl rfl rfl rfl rfl (fun _ _ _ _ _ => rfl) ?_
                refine RXl.exact (.pointer (some ⟨rb, 0, none⟩)) rfl rfl rfl rfl rfl (fun _ _ _ _ _ => rfl) ?_
                refine RXl.exact (.pointer (some ⟨rb, 0, none⟩)) rfl rfl rfl rfl rfl (fun j τ w' hj hJ => by simp [rho, upd, Spec.val, execOp, go_sem]) ?_
                refine RXl.exact (.pointer (some ⟨rb, 2, none⟩)) rfl rfl rfl rfl rfl (fun j τ w' hj hJ => by simp [rho, upd, Spec.val, execOp, go_sem]) ?_
                refine RXl.exact (.bool true) rfl rfl rfl rfl rfl (fun j τ w' hj hJ => by have c := (rd w' hJ).2.2; simp [rho, upd, Spec.val, execOp, go_sem, c]) ?_
                refine RXl.exact (.bool true) rfl rfl rfl rfl rfl (fun _ _ _ _ _ => rfl) ?_
                refine RXl.exact (.int .i64 0) rfl rfl rfl rfl rfl (fun _ _ _ _ _ => rfl) ?_
                refine RXl.exact (.bool false) rfl rfl rfl rfl rfl (fun j τ w' hj hJ => by simp [rho, upd, Spec.val, execOp, go_sem]) ?_
                refine RXl.exact (.bool false) rfl rfl rfl rfl rfl (fun _ _ _ _ _ => rfl) ?_
                refine RXl.exact (.slice a10 tb9.length c10) rfl rfl rfl rfl rfl (fun _ _ _ _ _ => rfl) ?_
                refine RXl.exact (str tb9) rfl rfl rfl rfl rfl (fun j τ w' hj hJ => exec_convert rfl (run_str Try.underlying25 Try.underlying5 Try.underlying9 (St.bs hJ))) ?_
                refine RXl.exact (.pointer (some ⟨rb, 0, none⟩)) rfl rfl rfl rfl rfl (fun _ _ _ _ _ => rfl) ?_
                refine RXl.exact (.pointer (some ⟨rb, 0, none⟩)) rfl rfl rfl rfl rfl (fun j τ w' hj hJ => by simp [rho, upd, Spec.val, execOp, go_sem]) ?_
                refine RXl.exact (.pointer (some ⟨rb, 0, none⟩)) rfl rfl rfl rfl rfl (fun j τ w' hj hJ => by simp [rho, upd, Spec.val, execOp, go_sem]) ?_
                refine RXl.exact (str tb9) rfl rfl rfl rfl rfl (fun j τ w' hj hJ => by have c := (rd w' hJ).1; simp [rho, upd, Spec.val, execOp, go_sem, c]) ?_
                refine RXl.exact (.bool false) rfl rfl rfl rfl rfl (fun j τ w' hj hJ => by simp [rho, upd, Spec.val, execOp, go_sem]) ?_
                refine RXl.exact (.bool false) rfl rfl rfl rfl rfl (fun _ _ _ _ _ => rfl) ?_
                refine RXl.exact (.bool false) rfl rfl rfl rfl rfl (fun _ _ _ _ _ => rfl) ?_
                refine RXl.exact (.pointer (some ⟨tb, 0, none⟩)) rfl rfl rfl rfl rfl (fun _ _ _ _ _ => rfl) ?_
                refine RXl.callr (.int .i64 loose9) _ [.pointer (some ⟨tb, 0, none⟩)] [.tmp 145] _ rfl rfl rfl rfl rfl rfl (fun _ => rfl) (fun j τ w' hj hJ => loosec w' hJ) ?_
                refine RXl.exact (.pointer (some ⟨rb, 0, none⟩)) rfl rfl rfl rfl rfl (fun _ _ _ _ _ => rfl) ?_
                refine RXl.exact (.pointer (some ⟨rb, 0, none⟩)) rfl rfl rfl rfl rfl (fun j τ w' hj hJ => by simp [rho, upd, Spec.val, execOp, go_sem]) ?_
                refine RXl.exact (.pointer (some ⟨rb, 1, none⟩)) rfl rfl rfl rfl rfl (fun j τ w' hj hJ => by simp [rho, upd, Spec.val, execOp, go_sem]) ?_
                refine RXl.exact (.int .i64 loose9) rfl rfl rfl rfl rfl (fun j τ w' hj hJ => by have c := (rd w' hJ).2.1; simp [rho, upd, Spec.val, execOp, go_sem, c]) ?_
                refine RXl.exact (.bool false) rfl rfl rfl rfl rfl (fun j τ w' hj hJ => by simp [rho, upd, Spec.val, execOp, go_sem]) ?_
                refine RXl.exact (.bool false) rfl rfl rfl rfl rfl (fun _ _ _ _ _ => rfl) ?_
                refine RXl.exact (.bool false) rfl rfl rfl rfl rfl (fun _ _ _ _ _ => rfl) ?_
                refine RXl.exact (.bool false) rfl rfl rfl rfl rfl (fun _ _ _ _ _ => rfl) ?_
                refine RXl.exact (.bool false) rfl rfl rfl rfl rfl (fun _ _ _ _ _ => rfl) ?_
                refine RXl.exact (.pointer (some ⟨rb, 0, none⟩)) rfl rfl rfl rfl rfl (fun _ _ _ _ _ => rfl) ?_
                refine RXl.exact (.pointer (some ⟨rb, 0, none⟩)) rfl rfl rfl rfl rfl (fun j τ w' hj hJ => by simp [rho, upd, Spec.val, execOp, go_sem]) ?_
                refine RXl.exact (.pointer (some ⟨rb, 2, none⟩)) rfl rfl rfl rfl rfl (fun j τ w' hj hJ => by simp [rho, upd, Spec.val, execOp, go_sem]) ?_
                refine RXl.exact (.bool true) rfl rfl rfl rfl rfl (fun j τ w' hj hJ => by have c := (rd w' hJ).2.2; simp [rho, upd, Spec.val, execOp, go_sem, c]) ?_
                refine RXl.exact (.bool false) rfl rfl rfl rfl rfl (fun j τ w' hj hJ => by simp [rho, upd, Spec.val, execOp, go_sem]) ?_
                refine RXl.exact (.bool false) rfl rfl rfl rfl rfl (fun _ _ _ _ _ => rfl) ?_
                refine RXl.skip rfl rfl rfl rfl ?_
                refine RXl.skip rfl rfl rfl rfl ?_
                refine RXl.skip rfl rfl rfl rfl ?_
                refine RXl.skip rfl rfl rfl rfl ?_
                refine RXl.skip rfl rfl rfl rfl ?_
                refine RXl.skip rfl rfl rfl rfl ?_
                refine RXl.skip rfl rfl rfl rfl ?_
                refine RXl.exact ((Value.bool false)) rfl rfl rfl rfl rfl (fun _ _ _ _ _ => rfl) ?_
                refine RXl.exact ((Value.bool false)) rfl rfl rfl rfl rfl (fun _ _ _ _ _ => rfl) ?_
                refine RXl.nilx _ (Agr.upd _ _ (Agr.upd _ _ (Agr.upd _ _ (Agr.upd _ _ (Agr.upd _ _ (Agr.upd _ _ (Agr.upd _ _ (Agr.upd _ _ (Agr.upd _ _ (Agr.upd _ _ (Agr.upd _ _ (Agr.upd _ _ (Agr.upd _ _ (Agr.upd _ _ (Agr.upd _ _ (Agr.upd _ _ (Agr.upd _ _ (Agr.upd _ _ (Agr.upd _ _ (Agr.upd _ _ (Agr.upd _ _ (Agr.upd _ _ (Agr.upd _ _ (Agr.upd _ _ (Agr.upd _ _ (Agr.upd _ _ (Agr.upd _ _ (Agr.upd _ _ (Agr.upd _ _ (Agr.upd _ _ (Agr.upd _ _ (Agr.upd _ _ (Agr.upd _ _ (Agr.upd _ _ (Agr.upd _ _ (Agr.upd _ _ (Agr.upd _ _ (Agr.upd _ _ (Agr.upd _ _ (Agr.upd _ _ (Agr.upd _ _ (Agr.upd _ _ (Agr.upd _ _ (Agr.upd _ _ (Agr.upd _ _ (Agr.upd _ _ (Agr.upd _ _ (Agr.upd _ _ (Agr.upd _ _ (Agr.upd _ _ (Agr.upd _ _ (Agr.base _)))))))))))))))))))))))))))))))))))))))))))))))))))) fun w11 hJ => ?_
                obtain ⟨_, hJ⟩ := hJ
                simp only [Act.put, List.setIfInBounds_toArray, List.set_cons_succ, List.set_cons_zero]
                have S11 := Lib.hid (St.right hJ)
                clear hJ rd live loosec S10
                go_wp2_with fail
                go_roundw
                case rel => exact ⟨k + 1, by omega, by omega, by go_num, _, _, HOK9.out, HF9.out, (hst_y S11.out).right⟩
                case measure => simp [intOf]; omega
            · by_cases k3 : kd = 3
              · subst k3
                clear k0 k1 k2
                go_wp2_with fail
                have s7 : St w0.heap.size w0 (wr.alloc (.cells #[.int .i64 3, .int .i64 n, .slice ab b.length cb] 27)) (Hst tb fb rb rfb T F T F (pts wr.heap.size (.cells #[.int .i64 3, .int .i64 n, .slice ab b.length cb] 27) * emp)) := hst_x (S6.out.alloc (.cells #[.int .i64 3, .int .i64 n, .slice ab b.length cb] 27))
                generalize wr.alloc _ = w7 at s7 ⊢
                generalize wr.heap.size = g at s7 ⊢
                have cg : ∀ w' T F T2 F2, St w0.heap.size w0 w' (Hst tb fb rb rfb T F T2 F2 (pts g (.cells #[.int .i64 3, .int .i64 n, .slice ab b.length cb] 27) * emp)) → w'.cell? ⟨g, 1, none⟩ = some (.int .i64 n) ∧ w'.cell? ⟨g, 2, none⟩ = some (.slice ab b.length cb) := fun w' T F T2 F2 s => by
                  exact ⟨hst_g s 1, hst_g s 2⟩
                have S7 := Lib.hid s7
                have CG := Lib.hid cg
                clear s7 cg S6 c0 c1 c2
                refine (fail_calls T _ _ w7 S7.out).mono ?_
                rintro e w8 ⟨rfl, s8⟩
                have s8 : St w0.heap.size w0 w8 (Hst tb fb rb rfb ⟨T.b, T.loose, true⟩ F T F (pts g (.cells #[.int .i64 3, .int .i64 n, .slice ab b.length cb] 27) * emp)) := s8
                have s9 := hst_rtp s8
                have c0 := s9.cell 0
                have c1 := s9.cell 1
                have c2 := s9.cell 2
                have c3 := s9.cell 3
                have f0 := s9.free 0
                have f1 := s9.free 1
                have f2 := s9.free 2
                have f3 := s9.free 3
                simp at c0 c1 c2 c3
                have S8 := Lib.hid s8
                clear s8 s9 S7
                go_wp2_with fail
                have s9 := hst_fail S8.out
                generalize w8.setCell _ _ = w9 at s9 ⊢
                clear c0 c1 c2 c3 f0 f1 f2 f3 S8
                have S9 := Lib.hid (show St w0.heap.size w0 w9 (Hst tb fb rb rfb (⟨T.b, T.loose, true⟩ : Tp) F (⟨T.b, T.loose, true⟩ : Tp) F (pts g (.cells #[.int .i64 3, .int .i64 n, .slice ab b.length cb] 27) * emp)) from s9)
                have HOK9 := Lib.hid (show ((⟨T.b, T.loose, true⟩ : Tp)).ok from HOK.out)
                have HF9 := Lib.hid (show fits (F) from HFT.out)
                generalize (⟨T.b, T.loose, true⟩ : Tp) = T9 at S9 HOK9
                generalize F = F9 at S9 HF9
                clear s9 CG HOK HFT
                go_wp2_with fail
                refine (bytes_calls T9 _ _ _ S9.out).mono ?_
                rintro e w10 ⟨a10, c10, he, s10⟩
                obtain ⟨tb9, loose9, gone9⟩ := T9
                cases gone9 with
                | true =>
                  have he : e = .returned (.tuple #[.slice a10 0 c10, .int .i64 5]) := he
                  subst he
                  have S10 := Lib.hid (show St w0.heap.size w0 w10 (row 5 1 (.slice a10 0 c10) 0 (bvs []) * Hst tb fb rb rfb ⟨tb9, loose9, true⟩ F9 ⟨tb9, loose9, true⟩ F9 (pts g (.cells #[.int .i64 3, .int .i64 n, .slice ab b.length cb] 27) * emp)) from s10)
                  clear s10 S9
                  go_wp2_with fail
                  refine wp_region_rx (fun j w => St w0.heap.size w0 w (row 5 1 (.slice a10 0 c10) 0 (bvs []) * Hst tb fb rb rfb ⟨tb9, loose9, true⟩ F9 ⟨tb9, loose9, true⟩ F9 (pts g (.cells #[.int .i64 3, .int .i64 n, .slice ab b.length cb] 27) * emp))) [] mixed (by kernel_rfl) (by kernel_rfl) S10.out.drew ?_
                  have rd : ∀ w', St w0.heap.size w0 w' (row 5 1 (.slice a10 0 c10) 0 (bvs []) * Hst tb fb rb rfb ⟨tb9, loose9, true⟩ F9 ⟨tb9, loose9, true⟩ F9 (pts g (.cells #[.int .i64 3, .int .i64 n, .slice ab b.length cb] 27) * emp)) → w'.cell? ⟨rb, 0, none⟩ = some (str tb9) ∧ w'.cell? ⟨rb, 1, none⟩ = some (.int .i64 loose9) ∧ w'.cell? ⟨rb, 2, none⟩ = some (.bool false) := fun w' s => hst_rcell s
                  have live : ∀ w', St w0.heap.size w0 w' (row 5 1 (.slice a10 0 c10) 0 (bvs []) * Hst tb fb rb rfb ⟨tb9, loose9, true⟩ F9 ⟨tb9, loose9, true⟩ F9 (pts g (.cells #[.int .i64 3, .int .i64 n, .slice ab b.length cb] 27) * emp)) → Calls Try.prog 32 #[.pointer (some ⟨tb, 0, none⟩)] w' (RetS w0.heap.size w0 (row 5 1 (.slice a10 0 c10) 0 (bvs []) * Hst tb fb rb rfb ⟨tb9, loose9, true⟩ F9 ⟨tb9, loose9, true⟩ F9 (pts g (.cells #[.int .i64 3, .int .i64 n, .slice ab b.length cb] 27) * emp)) (.bool false)) := fun w' s => hst_live w' s
                  refine RXl.exact (.pointer (some ⟨tb, 0, none⟩)) rfl rfl rfl rfl rfl (fun _ _ _ _ _ => rfl) ?_
                  refine RXl.callr (.bool false) _ [.pointer (some ⟨tb, 0, none⟩)] [.tmp 120] _ rfl rfl rfl rfl rfl rfl (fun _ => rfl) (fun j τ w' hj hJ => live w' hJ) ?_
                  refine RXl.exact (.pointer (some ⟨rb, 0, none⟩)) rfl rfl rfl rfl rfl (fun _ _ _ _ _ => rfl) ?_
                  refine RXl.exact (.pointer (some ⟨rb, 0, none⟩)) rfl rfl rfl rfl rfl (fun j τ w' hj hJ => by simp [rho, upd, Spec.val, execOp, go_sem]) ?_
                  refine RXl.exact (.pointer (some ⟨rb, 2, none⟩)) rfl rfl rfl rfl rfl (fun j τ w' hj hJ => by simp [rho, upd, Spec.val, execOp, go_sem]) ?_
                  refine RXl.exact (.bool false) rfl rfl rfl rfl rfl (fun j τ w' hj hJ => by have c := (rd w' hJ).2.2; simp [rho, upd, Spec.val, execOp, go_sem, c]) ?_
                  refine RXl.exact (.bool false) rfl rfl rfl rfl rfl (fun j τ w' hj hJ => by simp [rho, upd, Spec.val, execOp, go_sem]) ?_
                  refine RXl.exact (.bool false) rfl rfl rfl rfl rfl (fun _ _ _ _ _ => rfl) ?_
                  refine RXl.exact (.pointer (some ⟨rb, 0, none⟩)) rfl rfl rfl rfl rfl (fun _ _ _ _ _ => rfl) ?_
                  refine RXl.exact (.pointer (some ⟨rb, 0, none⟩)) rfl rfl rfl rfl rfl (fun j τ w' hj hJ => by simp [rho, upd, Spec.val, execOp, go_sem]) ?_
                  refine RXl.exact (.pointer (some ⟨rb, 2, none⟩)) rfl rfl rfl rfl rfl (fun j τ w' hj hJ => by simp [rho, upd, Spec.val, execOp, go_sem]) ?_
                  refine RXl.exact (.bool false) rfl rfl rfl rfl rfl (fun j τ w' hj hJ => by have c := (rd w' hJ).2.2; simp [rho, upd, Spec.val, execOp, go_sem, c]) ?_
                  refine RXl.exact (.bool false) rfl rfl rfl rfl rfl (fun _ _ _ _ _ => rfl) ?_
                  refine RXl.skip rfl rfl rfl rfl ?_
                  refine RXl.skip rfl rfl rfl rfl ?_
                  refine RXl.skip rfl rfl rfl rfl ?_
                  refine RXl.skip rfl rfl rfl rfl ?_
                  refine RXl.skip rfl rfl rfl rfl ?_
                  refine RXl.skip rfl rfl rfl rfl ?_
                  refine RXl.skip rfl rfl rfl rfl ?_
                  refine RXl.skip rfl rfl rfl rfl ?_
                  refine RXl.skip rfl rfl rfl rfl ?_
                  refine RXl.skip rfl rfl rfl rfl ?_
                  refine RXl.skip rfl rfl rfl rfl ?_
                  refine RXl.skip rfl rfl rfl rfl ?_
                  refine RXl.skip rfl rfl rfl rfl ?_
                  refine RXl.skip rfl rfl rfl rfl ?_
                  refine RXl.skip rfl rfl rfl rfl ?_
                  refine RXl.skip rfl rfl rfl rfl ?_
                  refine RXl.skip rfl rfl rfl rfl ?_
                  refine RXl.skip rfl rfl rfl rfl ?_
                  refine RXl.skip rfl rfl rfl rfl ?_
                  refine RXl.skip rfl rfl rfl rfl ?_
                  refine RXl.exact (.bool false) rfl rfl rfl rfl rfl (fun _ _ _ _ _ => rfl) ?_
                  refine RXl.exact (.bool false) rfl rfl rfl rfl rfl (fun _ _ _ _ _ => rfl) ?_
                  refine RXl.exact (.bool false) rfl rfl rfl rfl rfl (fun _ _ _ _ _ => rfl) ?_
                  refine RXl.exact (.pointer (some ⟨rb, 0, none⟩)) rfl rfl rfl rfl rfl (fun _ _ _ _ _ => rfl) ?_
                  refine RXl.exact (.pointer (some ⟨rb, 0, none⟩)) rfl rfl rfl rfl rfl (fun j τ w' hj hJ => by simp [rho, upd, Spec.val, execOp, go_sem]) ?_
                  refine RXl.exact (.pointer (some ⟨rb, 2, none⟩)) rfl rfl rfl rfl rfl (fun j τ w' hj hJ => by simp [rho, upd, Spec.val, execOp, go_sem]) ?_
                  refine RXl.exact (.bool false) rfl rfl rfl rfl rfl (fun j τ w' hj hJ => by have c := (rd w' hJ).2.2; simp [rho, upd, Spec.val, execOp, go_sem, c]) ?_
                  refine RXl.exact (.bool true) rfl rfl rfl rfl rfl (fun j τ w' hj hJ => by simp [rho, upd, Spec.val, execOp, go_sem]) ?_
                  refine RXl.exact (.bool true) rfl rfl rfl rfl rfl (fun _ _ _ _ _ => rfl) ?_
                  refine RXl.exact (.int .i64 5) rfl rfl rfl rfl rfl (fun _ _ _ _ _ => rfl) ?_
                  refine RXl.exact (.bool false) rfl rfl rfl rfl rfl (fun j τ w' hj hJ => by simp [rho, upd, Spec.val, execOp, go_sem]) ?_
                  refine RXl.exact (.bool false) rfl rfl rfl rfl rfl (fun _ _ _ _ _ => rfl) ?_
                  refine RXl.exact (.slice a10 0 c10) rfl rfl rfl rfl rfl (fun _ _ _ _ _ => rfl) ?_
                  refine RXl.exact (.int .i64 0) rfl rfl rfl rfl rfl (fun j τ w' hj hJ => by simp [rho, upd, Spec.val, execOp, go_sem]) ?_
                  refine RXl.exact (.bool false) rfl rfl rfl rfl rfl (fun j τ w' hj hJ => by simp [rho, upd, Spec.val, execOp, go_sem]) ?_
                  refine RXl.exact (.bool false) rfl rfl rfl rfl rfl (fun _ _ _ _ _ => rfl) ?_
                  refine RXl.exact (.bool false) rfl rfl rfl rfl rfl (fun _ _ _ _ _ => rfl) ?_
                  refine RXl.exact (.bool false) rfl rfl rfl rfl rfl (fun _ _ _ _ _ => rfl) ?_
                  refine RXl.nilx _ (Agr.upd _ _ (Agr.upd _ _ (Agr.upd _ _ (Agr.upd _ _ (Agr.upd _ _ (Agr.upd _ _ (Agr.upd _ _ (Agr.upd _ _ (Agr.upd _ _ (Agr.upd _ _ (Agr.upd _ _ (Agr.upd _ _ (Agr.upd _ _ (Agr.upd _ _ (Agr.upd _ _ (Agr.upd _ _ (Agr.upd _ _ (Agr.upd _ _ (Agr.upd _ _ (Agr.upd _ _ (Agr.upd _ _ (Agr.upd _ _ (Agr.upd _ _ (Agr.upd _ _ (Agr.upd _ _ (Agr.upd _ _ (Agr.upd _ _ (Agr.upd _ _ (Agr.upd _ _ (Agr.upd _ _ (Agr.upd _ _ (Agr.upd _ _ (Agr.upd _ _ (Agr.upd _ _ (Agr.upd _ _ (Agr.upd _ _ (Agr.upd _ _ (Agr.upd _ _ (Agr.upd _ _ (Agr.upd _ _ (Agr.upd _ _ (Agr.upd _ _ (Agr.upd _ _ (Agr.upd _ _ (Agr.upd _ _ (Agr.upd _ _ (Agr.upd _ _ (Agr.upd _ _ (Agr.upd _ _ (Agr.upd _ _ (Agr.upd _ _ (Agr.base _)))))))))))))))))))))))))))))))))))))))))))))))))))) fun w11 hJ => ?_
                  obtain ⟨_, hJ⟩ := hJ
                  simp only [Act.put, List.setIfInBounds_toArray, List.set_cons_succ, List.set_cons_zero]
                  have S11 := Lib.hid (St.right hJ)
                  clear hJ rd live S10
                  go_wp2_with fail
                  go_roundw
                  case rel => exact ⟨k + 1, by omega, by omega, by go_num, _, _, HOK9.out, HF9.out, (hst_y S11.out).right⟩
                  case measure => simp [intOf]; omega
                | false =>
                  have he : e = .returned (.tuple #[.slice a10 tb9.length c10, .int .i64 0]) := he
                  subst he
                  have S10 := Lib.hid (show St w0.heap.size w0 w10 (row 5 1 (.slice a10 tb9.length c10) tb9.length (bvs tb9) * Hst tb fb rb rfb ⟨tb9, loose9, false⟩ F9 ⟨tb9, loose9, false⟩ F9 (pts g (.cells #[.int .i64 3, .int .i64 n, .slice ab b.length cb] 27) * emp)) from s10)
                  clear s10 S9
                  go_wp2_with fail
                  refine wp_region_rx (fun j w => St w0.heap.size w0 w (row 5 1 (.slice a10 tb9.length c10) tb9.length (bvs tb9) * Hst tb fb rb rfb ⟨tb9, loose9, false⟩ F9 ⟨tb9, loose9, false⟩ F9 (pts g (.cells #[.int .i64 3, .int .i64 n, .slice ab b.length cb] 27) * emp))) [] mixed (by kernel_rfl) (by kernel_rfl) S10.out.drew ?_
                  have rd : ∀ w', St w0.heap.size w0 w' (row 5 1 (.slice a10 tb9.length c10) tb9.length (bvs tb9) * Hst tb fb rb rfb ⟨tb9, loose9, false⟩ F9 ⟨tb9, loose9, false⟩ F9 (pts g (.cells #[.int .i64 3, .int .i64 n, .slice ab b.length cb] 27) * emp)) → w'.cell? ⟨rb, 0, none⟩ = some (str tb9) ∧ w'.cell? ⟨rb, 1, none⟩ = some (.int .i64 loose9) ∧ w'.cell? ⟨rb, 2, none⟩ = some (.bool true) := fun w' s => hst_rcell s
                  have live : ∀ w', St w0.heap.size w0 w' (row 5 1 (.slice a10 tb9.length c10) tb9.length (bvs tb9) * Hst tb fb rb rfb ⟨tb9, loose9, false⟩ F9 ⟨tb9, loose9, false⟩ F9 (pts g (.cells #[.int .i64 3, .int .i64 n, .slice ab b.length cb] 27) * emp)) → Calls Try.prog 32 #[.pointer (some ⟨tb, 0, none⟩)] w' (RetS w0.heap.size w0 (row 5 1 (.slice a10 tb9.length c10) tb9.length (bvs tb9) * Hst tb fb rb rfb ⟨tb9, loose9, false⟩ F9 ⟨tb9, loose9, false⟩ F9 (pts g (.cells #[.int .i64 3, .int .i64 n, .slice ab b.length cb] 27) * emp)) (.bool true)) := fun w' s => hst_live w' s
                  have loosec : ∀ w', St w0.heap.size w0 w' (row 5 1 (.slice a10 tb9.length c10) tb9.length (bvs tb9) * Hst tb fb rb rfb ⟨tb9, loose9, false⟩ F9 ⟨tb9, loose9, false⟩ F9 (pts g (.cells #[.int .i64 3, .int .i64 n, .slice ab b.length cb] 27) * emp)) → Calls Try.prog 17 #[.pointer (some ⟨tb, 0, none⟩)] w' (RetS w0.heap.size w0 (row 5 1 (.slice a10 tb9.length c10) tb9.length (bvs tb9) * Hst tb fb rb rfb ⟨tb9, loose9, false⟩ F9 ⟨tb9, loose9, false⟩ F9 (pts g (.cells #[.int .i64 3, .int .i64 n, .slice ab b.length cb] 27) * emp)) (.int .i64 loose9)) := fun w' s => hst_loose w' s
                  refine RXl.exact (.pointer (some ⟨tb, 0, none⟩)) rfl rfl rfl rfl rfl (fun _ _ _ _ _ => rfl) ?_
                  refine RXl.callr (.bool true) _ [.pointer (some ⟨tb, 0, none⟩)] [.tmp 120] _ rfl rfl rfl rfl rfl rfl (fun _ => rfl) (fun j τ w' hj hJ => live w' hJ) ?_
                  refine RXl.exact (.pointer (some ⟨rb, 0, none⟩)) rfl rfl rfl rfl rfl (fun _ _ _ _ _ => rfl) ?_
                  refine RXl.exact (.pointer (some ⟨rb, 0, none⟩)) rfl rfl rfl rfl rfl (fun j τ w' hj hJ => by simp [rho, upd, Spec.val, execOp, go_sem]) ?_
                  refine RXl.exact (.pointer (some ⟨rb, 2, none⟩)) rfl rfl rfl rfl rfl (fun j τ w' hj hJ => by simp [rho, upd, Spec.val, execOp, go_sem]) ?_
                  refine RXl.exact (.bool true) rfl rfl rfl rfl rfl (fun j τ w' hj hJ => by have c := (rd w' hJ).2.2; simp [rho, upd, Spec.val, execOp, go_sem, c]) ?_
                  refine RXl.exact (.bool false) rfl rfl rfl rfl rfl (fun j τ w' hj hJ => by simp [rho, upd, Spec.val, execOp, go_sem]) ?_
                  refine RXl.exact (.bool false) rfl rfl rfl rfl rfl (fun _ _ _ _ _ => rfl) ?_
                  refine RXl.exact (.pointer (some ⟨rb, 0, none⟩)) rfl rfl rfl rfl rfl (fun _ _ _ _ _ => rfl) ?_
                  refine RXl.exact (.pointer (some ⟨rb, 0, none⟩)) rfl rfl rfl rfl rfl (fun j τ w' hj hJ => by simp [rho, upd, Spec.val, execOp, go_sem]) ?_
                  refine RXl.exact (.pointer (some ⟨rb, 2, none⟩)) rfl rfl rfl rfl rfl (fun j τ w' hj hJ => by simp [rho, upd, Spec.val, execOp, go_sem]) ?_
                  refine RXl.exact (.bool true) rfl rfl rfl rfl rfl (fun j τ w' hj hJ => by have c := (rd w' hJ).2.2; simp [rho, upd, Spec.val, execOp, go_sem, c]) ?_
                  refine RXl.exact (.bool true) rfl rfl rfl rfl rfl (fun _ _ _ _ _ => rfl) ?_
                  refine RXl.exact (.int .i64 0) rfl rfl rfl rfl rfl (fun _ _ _ _ _ => rfl) ?_
                  refine RXl.exact (.bool false) rfl rfl rfl rfl rfl (fun j τ w' hj hJ => by simp [rho, upd, Spec.val, execOp, go_sem]) ?_
                  refine RXl.exact (.bool false) rfl rfl rfl rfl rfl (fun _ _ _ _ _ => rfl) ?_
                  refine RXl.exact (.slice a10 tb9.length c10) rfl rfl rfl rfl rfl (fun _ _ _ _ _ => rfl) ?_
                  refine RXl.exact (str tb9) rfl rfl rfl rfl rfl (fun j τ w' hj hJ => exec_convert rfl (run_str Try.underlying25 Try.underlying5 Try.underlying9 (St.bs hJ))) ?_
                  refine RXl.exact (.pointer (some ⟨rb, 0, none⟩)) rfl rfl rfl rfl rfl (fun _ _ _ _ _ => rfl) ?_
                  refine RXl.exact (.pointer (some ⟨rb, 0, none⟩)) rfl rfl rfl rfl rfl (fun j τ w' hj hJ => by simp [rho, upd, Spec.val, execOp, go_sem]) ?_
                  refine RXl.exact (.pointer (some ⟨rb, 0, none⟩)) rfl rfl rfl rfl rfl (fun j τ w' hj hJ => by simp [rho, upd, Spec.val, execOp, go_sem]) ?_
                  refine RXl.exact (str tb9) rfl rfl rfl rfl rfl (fun j τ w' hj hJ => by have c := (rd w' hJ).1; simp [rho, upd, Spec.val, execOp, go_sem, c]) ?_
                  refine RXl.exact (.bool false) rfl rfl rfl rfl rfl (fun j τ w' hj hJ => by simp [rho, upd, Spec.val, execOp, go_sem]) ?_
                  refine RXl.exact (.bool false) rfl rfl rfl rfl rfl (fun _ _ _ _ _ => rfl) ?_
                  refine RXl.exact (.bool false) rfl rfl rfl rfl rfl (fun _ _ _ _ _ => rfl) ?_
                  refine RXl.exact (.pointer (some ⟨tb, 0, none⟩)) rfl rfl rfl rfl rfl (fun _ _ _ _ _ => rfl) ?_
                  refine RXl.callr (.int .i64 loose9) _ [.pointer (some ⟨tb, 0, none⟩)] [.tmp 145] _ rfl rfl rfl rfl rfl rfl (fun _ => rfl) (fun j τ w' hj hJ => loosec w' hJ) ?_
                  refine RXl.exact (.pointer (some ⟨rb, 0, none⟩)) rfl rfl rfl rfl rfl (fun _ _ _ _ _ => rfl) ?_
                  refine RXl.exact (.pointer (some ⟨rb, 0, none⟩)) rfl rfl rfl rfl rfl (fun j τ w' hj hJ => by simp [rho, upd, Spec.val, execOp, go_sem]) ?_
                  refine RXl.exact (.pointer (some ⟨rb, 1, none⟩)) rfl rfl rfl rfl rfl (fun j τ w' hj hJ => by simp [rho, upd, Spec.val, execOp, go_sem]) ?_
                  refine RXl.exact (.int .i64 loose9) rfl rfl rfl rfl rfl (fun j τ w' hj hJ => by have c := (rd w' hJ).2.1; simp [rho, upd, Spec.val, execOp, go_sem, c]) ?_
                  refine RXl.exact (.bool false) rfl rfl rfl rfl rfl (fun j τ w' hj hJ => by simp [rho, upd, Spec.val, execOp, go_sem]) ?_
                  refine RXl.exact (.bool false) rfl rfl rfl rfl rfl (fun _ _ _ _ _ => rfl) ?_
                  refine RXl.exact (.bool false) rfl rfl rfl rfl rfl (fun _ _ _ _ _ => rfl) ?_
                  refine RXl.exact (.bool false) rfl rfl rfl rfl rfl (fun _ _ _ _ _ => rfl) ?_
                  refine RXl.exact (.bool false) rfl rfl rfl rfl rfl (fun _ _ _ _ _ => rfl) ?_
                  refine RXl.exact (.pointer (some ⟨rb, 0, none⟩)) rfl rfl rfl rfl rfl (fun _ _ _ _ _ => rfl) ?_
                  refine RXl.exact (.pointer (some ⟨rb, 0, none⟩)) rfl rfl rfl rfl rfl (fun j τ w' hj hJ => by simp [rho, upd, Spec.val, execOp, go_sem]) ?_
                  refine RXl.exact (.pointer (some ⟨rb, 2, none⟩)) rfl rfl rfl rfl rfl (fun j τ w' hj hJ => by simp [rho, upd, Spec.val, execOp, go_sem]) ?_
                  refine RXl.exact (.bool true) rfl rfl rfl rfl rfl (fun j τ w' hj hJ => by have c := (rd w' hJ).2.2; simp [rho, upd, Spec.val, execOp, go_sem, c]) ?_
                  refine RXl.exact (.bool false) rfl rfl rfl rfl rfl (fun j τ w' hj hJ => by simp [rho, upd, Spec.val, execOp, go_sem]) ?_
                  refine RXl.exact (.bool false) rfl rfl rfl rfl rfl (fun _ _ _ _ _ => rfl) ?_
                  refine RXl.skip rfl rfl rfl rfl ?_
                  refine RXl.skip rfl rfl rfl rfl ?_
                  refine RXl.skip rfl rfl rfl rfl ?_
                  refine RXl.skip rfl rfl rfl rfl ?_
                  refine RXl.skip rfl rfl rfl rfl ?_
                  refine RXl.skip rfl rfl rfl rfl ?_
                  refine RXl.skip rfl rfl rfl rfl ?_
                  refine RXl.exact ((Value.bool false)) rfl rfl rfl rfl rfl (fun _ _ _ _ _ => rfl) ?_
                  refine RXl.exact ((Value.bool false)) rfl rfl rfl rfl rfl (fun _ _ _ _ _ => rfl) ?_
                  refine RXl.nilx _ (Agr.upd _ _ (Agr.upd _ _ (Agr.upd _ _ (Agr.upd _ _ (Agr.upd _ _ (Agr.upd _ _ (Agr.upd _ _ (Agr.upd _ _ (Agr.upd _ _ (Agr.upd _ _ (Agr.upd _ _ (Agr.upd _ _ (Agr.upd _ _ (Agr.upd _ _ (Agr.upd _ _ (Agr.upd _ _ (Agr.upd _ _ (Agr.upd _ _ (Agr.upd _ _ (Agr.upd _ _ (Agr.upd _ _ (Agr.upd _ _ (Agr.upd _ _ (Agr.upd _ _ (Agr.upd _ _ (Agr.upd _ _ (Agr.upd _ _ (Agr.upd _ _ (Agr.upd _ _ (Agr.upd _ _ (Agr.upd _ _ (Agr.upd _ _ (Agr.upd _ _ (Agr.upd _ _ (Agr.upd _ _ (Agr.upd _ _ (Agr.upd _ _ (Agr.upd _ _ (Agr.upd _ _ (Agr.upd _ _ (Agr.upd _ _ (Agr.upd _ _ (Agr.upd _ _ (Agr.upd _ _ (Agr.upd _ _ (Agr.upd _ _ (Agr.upd _ _ (Agr.upd _ _ (Agr.upd _ _ (Agr.upd _ _ (Agr.upd _ _ (Agr.base _)))))))))))))))))))))))))))))))))))))))))))))))))))) fun w11 hJ => ?_
                  obtain ⟨_, hJ⟩ := hJ
                  simp only [Act.put, List.setIfInBounds_toArray, List.set_cons_succ, List.set_cons_zero]
                  have S11 := Lib.hid (St.right hJ)
                  clear hJ rd live loosec S10
                  go_wp2_with fail
                  go_roundw
                  case rel => exact ⟨k + 1, by omega, by omega, by go_num, _, _, HOK9.out, HF9.out, (hst_y S11.out).right⟩
                  case measure => simp [intOf]; omega
              · by_cases k4 : kd = 4
                · subst k4
                  clear k0 k1 k2 k3
                  go_wp2_with fail
                  have s7 : St w0.heap.size w0 (wr.alloc (.cells #[.int .i64 4, .int .i64 n, .slice ab b.length cb] 27)) (Hst tb fb rb rfb T F T F (pts wr.heap.size (.cells #[.int .i64 4, .int .i64 n, .slice ab b.length cb] 27) * emp)) := hst_x (S6.out.alloc (.cells #[.int .i64 4, .int .i64 n, .slice ab b.length cb] 27))
                  generalize wr.alloc _ = w7 at s7 ⊢
                  generalize wr.heap.size = g at s7 ⊢
                  have cg : ∀ w' T F T2 F2, St w0.heap.size w0 w' (Hst tb fb rb rfb T F T2 F2 (pts g (.cells #[.int .i64 4, .int .i64 n, .slice ab b.length cb] 27) * emp)) → w'.cell? ⟨g, 1, none⟩ = some (.int .i64 n) ∧ w'.cell? ⟨g, 2, none⟩ = some (.slice ab b.length cb) := fun w' T F T2 F2 s => by
                    exact ⟨hst_g s 1, hst_g s 2⟩
                  have S7 := Lib.hid s7
                  have CG := Lib.hid cg
                  clear s7 cg S6 c0 c1 c2
                  refine (replace_calls T _ _ w7 S7.out).mono ?_
                  rintro e w8 ⟨rfl, s8⟩
                  have S8 := Lib.hid (show St w0.heap.size w0 w8 (Hst tb fb rb rfb Tp.new F T F (pts g (.cells #[.int .i64 4, .int .i64 n, .slice ab b.length cb] 27) * emp)) from s8)
                  clear s8 S7
                  go_wp2_with fail
                  refine (hst_rreplace w8 S8.out).mono ?_
                  rintro e w9 ⟨rfl, s9⟩
                  clear S8
                  have S9 := Lib.hid (show St w0.heap.size w0 w9 (Hst tb fb rb rfb Tp.new F Tp.new F (pts g (.cells #[.int .i64 4, .int .i64 n, .slice ab b.length cb] 27) * emp)) from s9)
                  have HOK9 := Lib.hid (show (Tp.new).ok from ⟨Nat.le_refl _, Nat.zero_le _⟩)
                  have HF9 := Lib.hid (show fits (F) from HFT.out)
                  generalize Tp.new = T9 at S9 HOK9
                  generalize F = F9 at S9 HF9
                  clear s9 CG HOK HFT
                  go_wp2_with fail
                  refine (bytes_calls T9 _ _ _ S9.out).mono ?_
                  rintro e w10 ⟨a10, c10, he, s10⟩
                  obtain ⟨tb9, loose9, gone9⟩ := T9
                  cases gone9 with
                  | true =>
                    have he : e = .returned (.tuple #[.slice a10 0 c10, .int .i64 5]) := he
                    subst he
                    have S10 := Lib.hid (show St w0.heap.size w0 w10 (row 5 1 (.slice a10 0 c10) 0 (bvs []) * Hst tb fb rb rfb ⟨tb9, loose9, true⟩ F9 ⟨tb9, loose9, true⟩ F9 (pts g (.cells #[.int .i64 4, .int .i64 n, .slice ab b.length cb] 27) * emp)) from s10)
                    clear s10 S9
                    go_wp2_with fail
                    refine wp_region_rx (fun j w => St w0.heap.size w0 w (row 5 1 (.slice a10 0 c10) 0 (bvs []) * Hst tb fb rb rfb ⟨tb9, loose9, true⟩ F9 ⟨tb9, loose9, true⟩ F9 (pts g (.cells #[.int .i64 4, .int .i64 n, .slice ab b.length cb] 27) * emp))) [] mixed (by kernel_rfl) (by kernel_rfl) S10.out.drew ?_
                    have rd : ∀ w', St w0.heap.size w0 w' (row 5 1 (.slice a10 0 c10) 0 (bvs []) * Hst tb fb rb rfb ⟨tb9, loose9, true⟩ F9 ⟨tb9, loose9, true⟩ F9 (pts g (.cells #[.int .i64 4, .int .i64 n, .slice ab b.length cb] 27) * emp)) → w'.cell? ⟨rb, 0, none⟩ = some (str tb9) ∧ w'.cell? ⟨rb, 1, none⟩ = some (.int .i64 loose9) ∧ w'.cell? ⟨rb, 2, none⟩ = some (.bool false) := fun w' s => hst_rcell s
                    have live : ∀ w', St w0.heap.size w0 w' (row 5 1 (.slice a10 0 c10) 0 (bvs []) * Hst tb fb rb rfb ⟨tb9, loose9, true⟩ F9 ⟨tb9, loose9, true⟩ F9 (pts g (.cells #[.int .i64 4, .int .i64 n, .slice ab b.length cb] 27) * emp)) → Calls Try.prog 32 #[.pointer (some ⟨tb, 0, none⟩)] w' (RetS w0.heap.size w0 (row 5 1 (.slice a10 0 c10) 0 (bvs []) * Hst tb fb rb rfb ⟨tb9, loose9, true⟩ F9 ⟨tb9, loose9, true⟩ F9 (pts g (.cells #[.int .i64 4, .int .i64 n, .slice ab b.length cb] 27) * emp)) (.bool false)) := fun w' s => hst_live w' s
                    refine RXl.exact (.pointer (some ⟨tb, 0, none⟩)) rfl rfl rfl rfl rfl (fun _ _ _ _ _ => rfl) ?_
                    refine RXl.callr (.bool false) _ [.pointer (some ⟨tb, 0, none⟩)] [.tmp 120] _ rfl rfl rfl rfl rfl rfl (fun _ => rfl) (fun j τ w' hj hJ => live w' hJ) ?_
                    refine RXl.exact (.pointer (some ⟨rb, 0, none⟩)) rfl rfl rfl rfl rfl (fun _ _ _ _ _ => rfl) ?_
                    refine RXl.exact (.pointer (some ⟨rb, 0, none⟩)) rfl rfl rfl rfl rfl (fun j τ w' hj hJ => by simp [rho, upd, Spec.val, execOp, go_sem]) ?_
                    refine RXl.exact (.pointer (some ⟨rb, 2, none⟩)) rfl rfl rfl rfl rfl (fun j τ w' hj hJ => by simp [rho, upd, Spec.val, execOp, go_sem]) ?_
                    refine RXl.exact (.bool false) rfl rfl rfl rfl rfl (fun j τ w' hj hJ => by have c := (rd w' hJ).2.2; simp [rho, upd, Spec.val, execOp, go_sem, c]) ?_
                    refine RXl.exact (.bool false) rfl rfl rfl rfl rfl (fun j τ w' hj hJ => by simp [rho, upd, Spec.val, execOp, go_sem]) ?_
                    refine RXl.exact (.bool false) rfl rfl rfl rfl rfl (fun _ _ _ _ _ => rfl) ?_
                    refine RXl.exact (.pointer (some ⟨rb, 0, none⟩)) rfl rfl rfl rfl rfl (fun _ _ _ _ _ => rfl) ?_
                    refine RXl.exact (.pointer (some ⟨rb, 0, none⟩)) rfl rfl rfl rfl rfl (fun j τ w' hj hJ => by simp [rho, upd, Spec.val, execOp, go_sem]) ?_
                    refine RXl.exact (.pointer (some ⟨rb, 2, none⟩)) rfl rfl rfl rfl rfl (fun j τ w' hj hJ => by simp [rho, upd, Spec.val, execOp, go_sem]) ?_
                    refine RXl.exact (.bool false) rfl rfl rfl rfl rfl (fun j τ w' hj hJ => by have c := (rd w' hJ).2.2; simp [rho, upd, Spec.val, execOp, go_sem, c]) ?_
                    refine RXl.exact (.bool false) rfl rfl rfl rfl rfl (fun _ _ _ _ _ => rfl) ?_
                    refine RXl.skip rfl rfl rfl rfl ?_
                    refine RXl.skip rfl rfl rfl rfl ?_
                    refine RXl.skip rfl rfl rfl rfl ?_
                    refine RXl.skip rfl rfl rfl rfl ?_
                    refine RXl.skip rfl rfl rfl rfl ?_
                    refine RXl.skip rfl rfl rfl rfl ?_
                    refine RXl.skip rfl rfl rfl rfl ?_
                    refine RXl.skip rfl rfl rfl rfl ?_
                    refine RXl.skip rfl rfl rfl rfl ?_
                    refine RXl.skip rfl rfl rfl rfl ?_
                    refine RXl.skip rfl rfl rfl rfl ?_
                    refine RXl.skip rfl rfl rfl rfl ?_
                    refine RXl.skip rfl rfl rfl rfl ?_
                    refine RXl.skip rfl rfl rfl rfl ?_
                    refine RXl.skip rfl rfl rfl rfl ?_
                    refine RXl.skip rfl rfl rfl rfl ?_
                    refine RXl.skip rfl rfl rfl rfl ?_
                    refine RXl.skip rfl rfl rfl rfl ?_
                    refine RXl.skip rfl rfl rfl rfl ?_
                    refine RXl.skip rfl rfl rfl rfl ?_
                    refine RXl.exact (.bool false) rfl rfl rfl rfl rfl (fun _ _ _ _ _ => rfl) ?_
                    refine RXl.exact (.bool false) rfl rfl rfl rfl rfl (fun _ _ _ _ _ => rfl) ?_
                    refine RXl.exact (.bool false) rfl rfl rfl rfl rfl (fun _ _ _ _ _ => rfl) ?_
                    refine RXl.exact (.pointer (some ⟨rb, 0, none⟩)) rfl rfl rfl rfl rfl (fun _ _ _ _ _ => rfl) ?_
                    refine RXl.exact (.pointer (some ⟨rb, 0, none⟩)) rfl rfl rfl rfl rfl (fun j τ w' hj hJ => by simp [rho, upd, Spec.val, execOp, go_sem]) ?_
                    refine RXl.exact (.pointer (some ⟨rb, 2, none⟩)) rfl rfl rfl rfl rfl (fun j τ w' hj hJ => by simp [rho, upd, Spec.val, execOp, go_sem]) ?_
                    refine RXl.exact (.bool false) rfl rfl rfl rfl rfl (fun j τ w' hj hJ => by have c := (rd w' hJ).2.2; simp [rho, upd, Spec.val, execOp, go_sem, c]) ?_
                    refine RXl.exact (.bool true) rfl rfl rfl rfl rfl (fun j τ w' hj hJ => by simp [rho, upd, Spec.val, execOp, go_sem]) ?_
                    refine RXl.exact (.bool true) rfl rfl rfl rfl rfl (fun _ _ _ _ _ => rfl) ?_
                    refine RXl.exact (.int .i64 5) rfl rfl rfl rfl rfl (fun _ _ _ _ _ => rfl) ?_
                    refine RXl.exact (.bool false) rfl rfl rfl rfl rfl (fun j τ w' hj hJ => by simp [rho, upd, Spec.val, execOp, go_sem]) ?_
                    refine RXl.exact (.bool false) rfl rfl rfl rfl rfl (fun _ _ _ _ _ => rfl) ?_
                    refine RXl.exact (.slice a10 0 c10) rfl rfl rfl rfl rfl (fun _ _ _ _ _ => rfl) ?_
                    refine RXl.exact (.int .i64 0) rfl rfl rfl rfl rfl (fun j τ w' hj hJ => by simp [rho, upd, Spec.val, execOp, go_sem]) ?_
                    refine RXl.exact (.bool false) rfl rfl rfl rfl rfl (fun j τ w' hj hJ => by simp [rho, upd, Spec.val, execOp, go_sem]) ?_
                    refine RXl.exact (.bool false) rfl rfl rfl rfl rfl (fun _ _ _ _ _ => rfl) ?_
                    refine RXl.exact (.bool false) rfl rfl rfl rfl rfl (fun _ _ _ _ _ => rfl) ?_
                    refine RXl.exact (.bool false) rfl rfl rfl rfl rfl (fun _ _ _ _ _ => rfl) ?_
                    refine RXl.nilx _ (Agr.upd _ _ (Agr.upd _ _ (Agr.upd _ _ (Agr.upd _ _ (Agr.upd _ _ (Agr.upd _ _ (Agr.upd _ _ (Agr.upd _ _ (Agr.upd _ _ (Agr.upd _ _ (Agr.upd _ _ (Agr.upd _ _ (Agr.upd _ _ (Agr.upd _ _ (Agr.upd _ _ (Agr.upd _ _ (Agr.upd _ _ (Agr.upd _ _ (Agr.upd _ _ (Agr.upd _ _ (Agr.upd _ _ (Agr.upd _ _ (Agr.upd _ _ (Agr.upd _ _ (Agr.upd _ _ (Agr.upd _ _ (Agr.upd _ _ (Agr.upd _ _ (Agr.upd _ _ (Agr.upd _ _ (Agr.upd _ _ (Agr.upd _ _ (Agr.upd _ _ (Agr.upd _ _ (Agr.upd _ _ (Agr.upd _ _ (Agr.upd _ _ (Agr.upd _ _ (Agr.upd _ _ (Agr.upd _ _ (Agr.upd _ _ (Agr.upd _ _ (Agr.upd _ _ (Agr.upd _ _ (Agr.upd _ _ (Agr.upd _ _ (Agr.upd _ _ (Agr.upd _ _ (Agr.upd _ _ (Agr.upd _ _ (Agr.upd _ _ (Agr.base _)))))))))))))))))))))))))))))))))))))))))))))))))))) fun w11 hJ => ?_
                    obtain ⟨_, hJ⟩ := hJ
                    simp only [Act.put, List.setIfInBounds_toArray, List.set_cons_succ, List.set_cons_zero]
                    have S11 := Lib.hid (St.right hJ)
                    clear hJ rd live S10
                    go_wp2_with fail
                    go_roundw
                    case rel => exact ⟨k + 1, by omega, by omega, by go_num, _, _, HOK9.out, HF9.out, (hst_y S11.out).right⟩
                    case measure => simp [intOf]; omega
                  | false =>
                    have he : e = .returned (.tuple #[.slice a10 tb9.length c10, .int .i64 0]) := he
                    subst he
                    have S10 := Lib.hid (show St w0.heap.size w0 w10 (row 5 1 (.slice a10 tb9.length c10) tb9.length (bvs tb9) * Hst tb fb rb rfb ⟨tb9, loose9, false⟩ F9 ⟨tb9, loose9, false⟩ F9 (pts g (.cells #[.int .i64 4, .int .i64 n, .slice ab b.length cb] 27) * emp)) from s10)
                    clear s10 S9
                    go_wp2_with fail
                    refine wp_region_rx (fun j w => St w0.heap.size w0 w (row 5 1 (.slice a10 tb9.length c10) tb9.length (bvs tb9) * Hst tb fb rb rfb ⟨tb9, loose9, false⟩ F9 ⟨tb9, loose9, false⟩ F9 (pts g (.cells #[.int .i64 4, .int .i64 n, .slice ab b.length cb] 27) * emp))) [] mixed (by kernel_rfl) (by kernel_rfl) S10.out.drew ?_
                    have rd : ∀ w', St w0.heap.size w0 w' (row 5 1 (.slice a10 tb9.length c10) tb9.length (bvs tb9) * Hst tb fb rb rfb ⟨tb9, loose9, false⟩ F9 ⟨tb9, loose9, false⟩ F9 (pts g (.cells #[.int .i64 4, .int .i64 n, .slice ab b.length cb] 27) * emp)) → w'.cell? ⟨rb, 0, none⟩ = some (str tb9) ∧ w'.cell? ⟨rb, 1, none⟩ = some (.int .i64 loose9) ∧ w'.cell? ⟨rb, 2, none⟩ = some (.bool true) := fun w' s => hst_rcell s
                    have live : ∀ w', St w0.heap.size w0 w' (row 5 1 (.slice a10 tb9.length c10) tb9.length (bvs tb9) * Hst tb fb rb rfb ⟨tb9, loose9, false⟩ F9 ⟨tb9, loose9, false⟩ F9 (pts g (.cells #[.int .i64 4, .int .i64 n, .slice ab b.length cb] 27) * emp)) → Calls Try.prog 32 #[.pointer (some ⟨tb, 0, none⟩)] w' (RetS w0.heap.size w0 (row 5 1 (.slice a10 tb9.length c10) tb9.length (bvs tb9) * Hst tb fb rb rfb ⟨tb9, loose9, false⟩ F9 ⟨tb9, loose9, false⟩ F9 (pts g (.cells #[.int .i64 4, .int .i64 n, .slice ab b.length cb] 27) * emp)) (.bool true)) := fun w' s => hst_live w' s
                    have loosec : ∀ w', St w0.heap.size w0 w' (row 5 1 (.slice a10 tb9.length c10) tb9.length (bvs tb9) * Hst tb fb rb rfb ⟨tb9, loose9, false⟩ F9 ⟨tb9, loose9, false⟩ F9 (pts g (.cells #[.int .i64 4, .int .i64 n, .slice ab b.length cb] 27) * emp)) → Calls Try.prog 17 #[.pointer (some ⟨tb, 0, none⟩)] w' (RetS w0.heap.size w0 (row 5 1 (.slice a10 tb9.length c10) tb9.length (bvs tb9) * Hst tb fb rb rfb ⟨tb9, loose9, false⟩ F9 ⟨tb9, loose9, false⟩ F9 (pts g (.cells #[.int .i64 4, .int .i64 n, .slice ab b.length cb] 27) * emp)) (.int .i64 loose9)) := fun w' s => hst_loose w' s
                    refine RXl.exact (.pointer (some ⟨tb, 0, none⟩)) rfl rfl rfl rfl rfl (fun _ _ _ _ _ => rfl) ?_
                    refine RXl.callr (.bool true) _ [.pointer (some ⟨tb, 0, none⟩)] [.tmp 120] _ rfl rfl rfl rfl rfl rfl (fun _ => rfl) (fun j τ w' hj hJ => live w' hJ) ?_
                    refine RXl.exact (.pointer (some ⟨rb, 0, none⟩)) rfl rfl rfl rfl rfl (fun _ _ _ _ _ => rfl) ?_
                    refine RXl.exact (.pointer (some ⟨rb, 0, none⟩)) rfl rfl rfl rfl rfl (fun j τ w' hj hJ => by simp [rho, upd, Spec.val, execOp, go_sem]) ?_
                    refine RXl.exact (.pointer (some ⟨rb, 2, none⟩)) rfl rfl rfl rfl rfl (fun j τ w' hj hJ => by simp [rho, upd, Spec.val, execOp, go_sem]) ?_
                    refine RXl.exact (.bool true) rfl rfl rfl rfl rfl (fun j τ w' hj hJ => by have c := (rd w' hJ).2.2; simp [rho, upd, Spec.val, execOp, go_sem, c]) ?_
                    refine RXl.exact (.bool false) rfl rfl rfl rfl rfl (fun j τ w' hj hJ => by simp [rho, upd, Spec.val, execOp, go_sem]) ?_
                    refine RXl.exact (.bool false) rfl rfl rfl rfl rfl (fun _ _ _ _ _ => rfl) ?_
                    refine RXl.exact (.pointer (some ⟨rb, 0, none⟩)) rfl rfl rfl rfl rfl (fun _ _ _ _ _ => rfl) ?_
                    refine RXl.exact (.pointer (some ⟨rb, 0, none⟩)) rfl rfl rfl rfl rfl (fun j τ w' hj hJ => by simp [rho, upd, Spec.val, execOp, go_sem]) ?_
                    refine RXl.exact (.pointer (some ⟨rb, 2, none⟩)) rfl rfl rfl rfl rfl (fun j τ w' hj hJ => by simp [rho, upd, Spec.val, execOp, go_sem]) ?_
                    refine RXl.exact (.bool true) rfl rfl rfl rfl rfl (fun j τ w' hj hJ => by have c := (rd w' hJ).2.2; simp [rho, upd, Spec.val, execOp, go_sem, c]) ?_
                    refine RXl.exact (.bool true) rfl rfl rfl rfl rfl (fun _ _ _ _ _ => rfl) ?_
                    refine RXl.exact (.int .i64 0) rfl rfl rfl rfl rfl (fun _ _ _ _ _ => rfl) ?_
                    refine RXl.exact (.bool false) rfl rfl rfl rfl rfl (fun j τ w' hj hJ => by simp [rho, upd, Spec.val, execOp, go_sem]) ?_
                    refine RXl.exact (.bool false) rfl rfl rfl rfl rfl (fun _ _ _ _ _ => rfl) ?_
                    refine RXl.exact (.slice a10 tb9.length c10) rfl rfl rfl rfl rfl (fun _ _ _ _ _ => rfl) ?_
                    refine RXl.exact (str tb9) rfl rfl rfl rfl rfl (fun j τ w' hj hJ => exec_convert rfl (run_str Try.underlying25 Try.underlying5 Try.underlying9 (St.bs hJ))) ?_
                    refine RXl.exact (.pointer (some ⟨rb, 0, none⟩)) rfl rfl rfl rfl rfl (fun _ _ _ _ _ => rfl) ?_
                    refine RXl.exact (.pointer (some ⟨rb, 0, none⟩)) rfl rfl rfl rfl rfl (fun j τ w' hj hJ => by simp [rho, upd, Spec.val, execOp, go_sem]) ?_
                    refine RXl.exact (.pointer (some ⟨rb, 0, none⟩)) rfl rfl rfl rfl rfl (fun j τ w' hj hJ => by simp [rho, upd, Spec.val, execOp, go_sem]) ?_
                    refine RXl.exact (str tb9) rfl rfl rfl rfl rfl (fun j τ w' hj hJ => by have c := (rd w' hJ).1; simp [rho, upd, Spec.val, execOp, go_sem, c]) ?_
                    refine RXl.exact (.bool false) rfl rfl rfl rfl rfl (fun j τ w' hj hJ => by simp [rho, upd, Spec.val, execOp, go_sem]) ?_
                    refine RXl.exact (.bool false) rfl rfl rfl rfl rfl (fun _ _ _ _ _ => rfl) ?_
                    refine RXl.exact (.bool false) rfl rfl rfl rfl rfl (fun _ _ _ _ _ => rfl) ?_
                    refine RXl.exact (.pointer (some ⟨tb, 0, none⟩)) rfl rfl rfl rfl rfl (fun _ _ _ _ _ => rfl) ?_
                    refine RXl.callr (.int .i64 loose9) _ [.pointer (some ⟨tb, 0, none⟩)] [.tmp 145] _ rfl rfl rfl rfl rfl rfl (fun _ => rfl) (fun j τ w' hj hJ => loosec w' hJ) ?_
                    refine RXl.exact (.pointer (some ⟨rb, 0, none⟩)) rfl rfl rfl rfl rfl (fun _ _ _ _ _ => rfl) ?_
                    refine RXl.exact (.pointer (some ⟨rb, 0, none⟩)) rfl rfl rfl rfl rfl (fun j τ w' hj hJ => by simp [rho, upd, Spec.val, execOp, go_sem]) ?_
                    refine RXl.exact (.pointer (some ⟨rb, 1, none⟩)) rfl rfl rfl rfl rfl (fun j τ w' hj hJ => by simp [rho, upd, Spec.val, execOp, go_sem]) ?_
                    refine RXl.exact (.int .i64 loose9) rfl rfl rfl rfl rfl (fun j τ w' hj hJ => by have c := (rd w' hJ).2.1; simp [rho, upd, Spec.val, execOp, go_sem, c]) ?_
                    refine RXl.exact (.bool false) rfl rfl rfl rfl rfl (fun j τ w' hj hJ => by simp [rho, upd, Spec.val, execOp, go_sem]) ?_
                    refine RXl.exact (.bool false) rfl rfl rfl rfl rfl (fun _ _ _ _ _ => rfl) ?_
                    refine RXl.exact (.bool false) rfl rfl rfl rfl rfl (fun _ _ _ _ _ => rfl) ?_
                    refine RXl.exact (.bool false) rfl rfl rfl rfl rfl (fun _ _ _ _ _ => rfl) ?_
                    refine RXl.exact (.bool false) rfl rfl rfl rfl rfl (fun _ _ _ _ _ => rfl) ?_
                    refine RXl.exact (.pointer (some ⟨rb, 0, none⟩)) rfl rfl rfl rfl rfl (fun _ _ _ _ _ => rfl) ?_
                    refine RXl.exact (.pointer (some ⟨rb, 0, none⟩)) rfl rfl rfl rfl rfl (fun j τ w' hj hJ => by simp [rho, upd, Spec.val, execOp, go_sem]) ?_
                    refine RXl.exact (.pointer (some ⟨rb, 2, none⟩)) rfl rfl rfl rfl rfl (fun j τ w' hj hJ => by simp [rho, upd, Spec.val, execOp, go_sem]) ?_
                    refine RXl.exact (.bool true) rfl rfl rfl rfl rfl (fun j τ w' hj hJ => by have c := (rd w' hJ).2.2; simp [rho, upd, Spec.val, execOp, go_sem, c]) ?_
                    refine RXl.exact (.bool false) rfl rfl rfl rfl rfl (fun j τ w' hj hJ => by simp [rho, upd, Spec.val, execOp, go_sem]) ?_
                    refine RXl.exact (.bool false) rfl rfl rfl rfl rfl (fun _ _ _ _ _ => rfl) ?_
                    refine RXl.skip rfl rfl rfl rfl ?_
                    refine RXl.skip rfl rfl rfl rfl ?_
                    refine RXl.skip rfl rfl rfl rfl ?_
                    refine RXl.skip rfl rfl rfl rfl ?_
                    refine RXl.skip rfl rfl rfl rfl ?_
                    refine RXl.skip rfl rfl rfl rfl ?_
                    refine RXl.skip rfl rfl rfl rfl ?_
                    refine RXl.exact ((Value.bool false)) rfl rfl rfl rfl rfl (fun _ _ _ _ _ => rfl) ?_
                    refine RXl.exact ((Value.bool false)) rfl rfl rfl rfl rfl (fun _ _ _ _ _ => rfl) ?_
                    refine RXl.nilx _ (Agr.upd _ _ (Agr.upd _ _ (Agr.upd _ _ (Agr.upd _ _ (Agr.upd _ _ (Agr.upd _ _ (Agr.upd _ _ (Agr.upd _ _ (Agr.upd _ _ (Agr.upd _ _ (Agr.upd _ _ (Agr.upd _ _ (Agr.upd _ _ (Agr.upd _ _ (Agr.upd _ _ (Agr.upd _ _ (Agr.upd _ _ (Agr.upd _ _ (Agr.upd _ _ (Agr.upd _ _ (Agr.upd _ _ (Agr.upd _ _ (Agr.upd _ _ (Agr.upd _ _ (Agr.upd _ _ (Agr.upd _ _ (Agr.upd _ _ (Agr.upd _ _ (Agr.upd _ _ (Agr.upd _ _ (Agr.upd _ _ (Agr.upd _ _ (Agr.upd _ _ (Agr.upd _ _ (Agr.upd _ _ (Agr.upd _ _ (Agr.upd _ _ (Agr.upd _ _ (Agr.upd _ _ (Agr.upd _ _ (Agr.upd _ _ (Agr.upd _ _ (Agr.upd _ _ (Agr.upd _ _ (Agr.upd _ _ (Agr.upd _ _ (Agr.upd _ _ (Agr.upd _ _ (Agr.upd _ _ (Agr.upd _ _ (Agr.upd _ _ (Agr.base _)))))))))))))))))))))))))))))))))))))))))))))))))))) fun w11 hJ => ?_
                    obtain ⟨_, hJ⟩ := hJ
                    simp only [Act.put, List.setIfInBounds_toArray, List.set_cons_succ, List.set_cons_zero]
                    have S11 := Lib.hid (St.right hJ)
                    clear hJ rd live loosec S10
                    go_wp2_with fail
                    go_roundw
                    case rel => exact ⟨k + 1, by omega, by omega, by go_num, _, _, HOK9.out, HF9.out, (hst_y S11.out).right⟩
                    case measure => simp [intOf]; omega
                · by_cases k5 : kd = 5
                  · subst k5
                    clear k0 k1 k2 k3 k4
                    go_wp2_with fail
                    have s7 : St w0.heap.size w0 (wr.alloc (.cells #[.int .i64 5, .int .i64 n, .slice ab b.length cb] 27)) (Hst tb fb rb rfb T F T F (pts wr.heap.size (.cells #[.int .i64 5, .int .i64 n, .slice ab b.length cb] 27) * emp)) := hst_x (S6.out.alloc (.cells #[.int .i64 5, .int .i64 n, .slice ab b.length cb] 27))
                    generalize wr.alloc _ = w7 at s7 ⊢
                    generalize wr.heap.size = g at s7 ⊢
                    have cg : ∀ w' T F T2 F2, St w0.heap.size w0 w' (Hst tb fb rb rfb T F T2 F2 (pts g (.cells #[.int .i64 5, .int .i64 n, .slice ab b.length cb] 27) * emp)) → w'.cell? ⟨g, 1, none⟩ = some (.int .i64 n) ∧ w'.cell? ⟨g, 2, none⟩ = some (.slice ab b.length cb) := fun w' T F T2 F2 s => by
                      exact ⟨hst_g s 1, hst_g s 2⟩
                    have S7 := Lib.hid s7
                    have CG := Lib.hid cg
                    clear s7 cg S6 c0 c1 c2
                    refine (crash_calls T n _ _ w7 hn S7.out).mono ?_
                    rintro e w8 ⟨rfl, s8⟩
                    have S8 := Lib.hid (show St w0.heap.size w0 w8 (Hst tb fb rb rfb (tCrash T n) F T F (pts g (.cells #[.int .i64 5, .int .i64 n, .slice ab b.length cb] 27) * emp)) from s8)
                    have d1 := (CG.out w8 _ _ _ _ S8.out).1
                    clear s8 S7
                    go_wp2_with fail
                    refine (hst_rcrash w8 n HOK.out hn S8.out).mono ?_
                    rintro e w9 ⟨rfl, s9⟩
                    clear S8 d1
                    have S9 := Lib.hid (show St w0.heap.size w0 w9 (Hst tb fb rb rfb (tCrash T n) F (tCrash T n) F (pts g (.cells #[.int .i64 5, .int .i64 n, .slice ab b.length cb] 27) * emp)) from s9)
                    have HOK9 := Lib.hid (show ((tCrash T n)).ok from crash_ok HOK.out n)
                    have HF9 := Lib.hid (show fits (F) from HFT.out)
                    generalize (tCrash T n) = T9 at S9 HOK9
                    generalize F = F9 at S9 HF9
                    clear s9 CG HOK HFT
                    go_wp2_with fail
                    refine (bytes_calls T9 _ _ _ S9.out).mono ?_
                    rintro e w10 ⟨a10, c10, he, s10⟩
                    obtain ⟨tb9, loose9, gone9⟩ := T9
                    cases gone9 with
                    | true =>
                      have he : e = .returned (.tuple #[.slice a10 0 c10, .int .i64 5]) := he
                      subst he
                      have S10 := Lib.hid (show St w0.heap.size w0 w10 (row 5 1 (.slice a10 0 c10) 0 (bvs []) * Hst tb fb rb rfb ⟨tb9, loose9, true⟩ F9 ⟨tb9, loose9, true⟩ F9 (pts g (.cells #[.int .i64 5, .int .i64 n, .slice ab b.length cb] 27) * emp)) from s10)
                      clear s10 S9
                      go_wp2_with fail
                      refine wp_region_rx (fun j w => St w0.heap.size w0 w (row 5 1 (.slice a10 0 c10) 0 (bvs []) * Hst tb fb rb rfb ⟨tb9, loose9, true⟩ F9 ⟨tb9, loose9, true⟩ F9 (pts g (.cells #[.int .i64 5, .int .i64 n, .slice ab b.length cb] 27) * emp))) [] mixed (by kernel_rfl) (by kernel_rfl) S10.out.drew ?_
                      have rd : ∀ w', St w0.heap.size w0 w' (row 5 1 (.slice a10 0 c10) 0 (bvs []) * Hst tb fb rb rfb ⟨tb9, loose9, true⟩ F9 ⟨tb9, loose9, true⟩ F9 (pts g (.cells #[.int .i64 5, .int .i64 n, .slice ab b.length cb] 27) * emp)) → w'.cell? ⟨rb, 0, none⟩ = some (str tb9) ∧ w'.cell? ⟨rb, 1, none⟩ = some (.int .i64 loose9) ∧ w'.cell? ⟨rb, 2, none⟩ = some (.bool false) := fun w' s => hst_rcell s
                      have live : ∀ w', St w0.heap.size w0 w' (row 5 1 (.slice a10 0 c10) 0 (bvs []) * Hst tb fb rb rfb ⟨tb9, loose9, true⟩ F9 ⟨tb9, loose9, true⟩ F9 (pts g (.cells #[.int .i64 5, .int .i64 n, .slice ab b.length cb] 27) * emp)) → Calls Try.prog 32 #[.pointer (some ⟨tb, 0, none⟩)] w' (RetS w0.heap.size w0 (row 5 1 (.slice a10 0 c10) 0 (bvs []) * Hst tb fb rb rfb ⟨tb9, loose9, true⟩ F9 ⟨tb9, loose9, true⟩ F9 (pts g (.cells #[.int .i64 5, .int .i64 n, .slice ab b.length cb] 27) * emp)) (.bool false)) := fun w' s => hst_live w' s
                      refine RXl.exact (.pointer (some ⟨tb, 0, none⟩)) rfl rfl rfl rfl rfl (fun _ _ _ _ _ => rfl) ?_
                      refine RXl.callr (.bool false) _ [.pointer (some ⟨tb, 0, none⟩)] [.tmp 120] _ rfl rfl rfl rfl rfl rfl (fun _ => rfl) (fun j τ w' hj hJ => live w' hJ) ?_
                      refine RXl.exact (.pointer (some ⟨rb, 0, none⟩)) rfl rfl rfl rfl rfl (fun _ _ _ _ _ => rfl) ?_
                      refine RXl.exact (.pointer (some ⟨rb, 0, none⟩)) rfl rfl rfl rfl rfl (fun j τ w' hj hJ => by simp [rho, upd, Spec.val, execOp, go_sem]) ?_
                      refine RXl.exact (.pointer (some ⟨rb, 2, none⟩)) rfl rfl rfl rfl rfl (fun j τ w' hj hJ => by simp [rho, upd, Spec.val, execOp, go_sem]) ?_
                      refine RXl.exact (.bool false) rfl rfl rfl rfl rfl (fun j τ w' hj hJ => by have c := (rd w' hJ).2.2; simp [rho, upd, Spec.val, execOp, go_sem, c]) ?_
                      refine RXl.exact (.bool false) rfl rfl rfl rfl rfl (fun j τ w' hj hJ => by simp [rho, upd, Spec.val, execOp, go_sem]) ?_
                      refine RXl.exact (.bool false) rfl rfl rfl rfl rfl (fun _ _ _ _ _ => rfl) ?_
                      refine RXl.exact (.pointer (some ⟨rb, 0, none⟩)) rfl rfl rfl rfl rfl (fun _ _ _ _ _ => rfl) ?_
                      refine RXl.exact (.pointer (some ⟨rb, 0, none⟩)) rfl rfl rfl rfl rfl (fun j τ w' hj hJ => by simp [rho, upd, Spec.val, execOp, go_sem]) ?_
                      refine RXl.exact (.pointer (some ⟨rb, 2, none⟩)) rfl rfl rfl rfl rfl (fun j τ w' hj hJ => by simp [rho, upd, Spec.val, execOp, go_sem]) ?_
                      refine RXl.exact (.bool false) rfl rfl rfl rfl rfl (fun j τ w' hj hJ => by have c := (rd w' hJ).2.2; simp [rho, upd, Spec.val, execOp, go_sem, c]) ?_
                      refine RXl.exact (.bool false) rfl rfl rfl rfl rfl (fun _ _ _ _ _ => rfl) ?_
                      refine RXl.skip rfl rfl rfl rfl ?_
                      refine RXl.skip rfl rfl rfl rfl ?_
                      refine RXl.skip rfl rfl rfl rfl ?_
                      refine RXl.skip rfl rfl rfl rfl ?_
                      refine RXl.skip rfl rfl rfl rfl ?_
                      refine RXl.skip rfl rfl rfl rfl ?_
                      refine RXl.skip rfl rfl rfl rfl ?_
                      refine RXl.skip rfl rfl rfl rfl ?_
                      refine RXl.skip rfl rfl rfl rfl ?_
                      refine RXl.skip rfl rfl rfl rfl ?_
                      refine RXl.skip rfl rfl rfl rfl ?_
                      refine RXl.skip rfl rfl rfl rfl ?_
                      refine RXl.skip rfl rfl rfl rfl ?_
                      refine RXl.skip rfl rfl rfl rfl ?_
                      refine RXl.skip rfl rfl rfl rfl ?_
                      refine RXl.skip rfl rfl rfl rfl ?_
                      refine RXl.skip rfl rfl rfl rfl ?_
                      refine RXl.skip rfl rfl rfl rfl ?_
                      refine RXl.skip rfl rfl rfl rfl ?_
                      refine RXl.skip rfl rfl rfl rfl ?_
                      refine RXl.exact (.bool false) rfl rfl rfl rfl rfl (fun _ _ _ _ _ => rfl) ?_
                      refine RXl.exact (.bool false) rfl rfl rfl rfl rfl (fun _ _ _ _ _ => rfl) ?_
                      refine RXl.exact (.bool false) rfl rfl rfl rfl rfl (fun _ _ _ _ _ => rfl) ?_
                      refine RXl.exact (.pointer (some ⟨rb, 0, none⟩)) rfl rfl rfl rfl rfl (fun _ _ _ _ _ => rfl) ?_
                      refine RXl.exact (.pointer (some ⟨rb, 0, none⟩)) rfl rfl rfl rfl rfl (fun j τ w' hj hJ => by simp [rho, upd, Spec.val, execOp, go_sem]) ?_
                      refine RXl.exact (.pointer (some ⟨rb, 2, none⟩)) rfl rfl rfl rfl rfl (fun j τ w' hj hJ => by simp [rho, upd, Spec.val, execOp, go_sem]) ?_
                      refine RXl.exact (.bool false) rfl rfl rfl rfl rfl (fun j τ w' hj hJ => by have c := (rd w' hJ).2.2; simp [rho, upd, Spec.val, execOp, go_sem, c]) ?_
                      refine RXl.exact (.bool true) rfl rfl rfl rfl rfl (fun j τ w' hj hJ => by simp [rho, upd, Spec.val, execOp, go_sem]) ?_
                      refine RXl.exact (.bool true) rfl rfl rfl rfl rfl (fun _ _ _ _ _ => rfl) ?_
                      refine RXl.exact (.int .i64 5) rfl rfl rfl rfl rfl (fun _ _ _ _ _ => rfl) ?_
                      refine RXl.exact (.bool false) rfl rfl rfl rfl rfl (fun j τ w' hj hJ => by simp [rho, upd, Spec.val, execOp, go_sem]) ?_
                      refine RXl.exact (.bool false) rfl rfl rfl rfl rfl (fun _ _ _ _ _ => rfl) ?_
                      refine RXl.exact (.slice a10 0 c10) rfl rfl rfl rfl rfl (fun _ _ _ _ _ => rfl) ?_
                      refine RXl.exact (.int .i64 0) rfl rfl rfl rfl rfl (fun j τ w' hj hJ => by simp [rho, upd, Spec.val, execOp, go_sem]) ?_
                      refine RXl.exact (.bool false) rfl rfl rfl rfl rfl (fun j τ w' hj hJ => by simp [rho, upd, Spec.val, execOp, go_sem]) ?_
                      refine RXl.exact (.bool false) rfl rfl rfl rfl rfl (fun _ _ _ _ _ => rfl) ?_
                      refine RXl.exact (.bool false) rfl rfl rfl rfl rfl (fun _ _ _ _ _ => rfl) ?_
                      refine RXl.exact (.bool false) rfl rfl rfl rfl rfl (fun _ _ _ _ _ => rfl) ?_
                      refine RXl.nilx _ (Agr.upd _ _ (Agr.upd _ _ (Agr.upd _ _ (Agr.upd _ _ (Agr.upd _ _ (Agr.upd _ _ (Agr.upd _ _ (Agr.upd _ _ (Agr.upd _ _ (Agr.upd _ _ (Agr.upd _ _ (Agr.upd _ _ (Agr.upd _ _ (Agr.upd _ _ (Agr.upd _ _ (Agr.upd _ _ (Agr.upd _ _ (Agr.upd _ _ (Agr.upd _ _ (Agr.upd _ _ (Agr.upd _ _ (Agr.upd _ _ (Agr.upd _ _ (Agr.upd _ _ (Agr.upd _ _ (Agr.upd _ _ (Agr.upd _ _ (Agr.upd _ _ (Agr.upd _ _ (Agr.upd _ _ (Agr.upd _ _ (Agr.upd _ _ (Agr.upd _ _ (Agr.upd _ _ (Agr.upd _ _ (Agr.upd _ _ (Agr.upd _ _ (Agr.upd _ _ (Agr.upd _ _ (Agr.upd _ _ (Agr.upd _ _ (Agr.upd _ _ (Agr.upd _ _ (Agr.upd _ _ (Agr.upd _ _ (Agr.upd _ _ (Agr.upd _ _ (Agr.upd _ _ (Agr.upd _ _ (Agr.upd _ _ (Agr.upd _ _ (Agr.base _)))))))))))))))))))))))))))))))))))))))))))))))))))) fun w11 hJ => ?_
                      obtain ⟨_, hJ⟩ := hJ
                      simp only [Act.put, List.setIfInBounds_toArray, List.set_cons_succ, List.set_cons_zero]
                      have S11 := Lib.hid (St.right hJ)
                      clear hJ rd live S10
                      go_wp2_with fail
                      go_roundw
                      case rel => exact ⟨k + 1, by omega, by omega, by go_num, _, _, HOK9.out, HF9.out, (hst_y S11.out).right⟩
                      case measure => simp [intOf]; omega
                    | false =>
                      have he : e = .returned (.tuple #[.slice a10 tb9.length c10, .int .i64 0]) := he
                      subst he
                      have S10 := Lib.hid (show St w0.heap.size w0 w10 (row 5 1 (.slice a10 tb9.length c10) tb9.length (bvs tb9) * Hst tb fb rb rfb ⟨tb9, loose9, false⟩ F9 ⟨tb9, loose9, false⟩ F9 (pts g (.cells #[.int .i64 5, .int .i64 n, .slice ab b.length cb] 27) * emp)) from s10)
                      clear s10 S9
                      go_wp2_with fail
                      refine wp_region_rx (fun j w => St w0.heap.size w0 w (row 5 1 (.slice a10 tb9.length c10) tb9.length (bvs tb9) * Hst tb fb rb rfb ⟨tb9, loose9, false⟩ F9 ⟨tb9, loose9, false⟩ F9 (pts g (.cells #[.int .i64 5, .int .i64 n, .slice ab b.length cb] 27) * emp))) [] mixed (by kernel_rfl) (by kernel_rfl) S10.out.drew ?_
                      have rd : ∀ w', St w0.heap.size w0 w' (row 5 1 (.slice a10 tb9.length c10) tb9.length (bvs tb9) * Hst tb fb rb rfb ⟨tb9, loose9, false⟩ F9 ⟨tb9, loose9, false⟩ F9 (pts g (.cells #[.int .i64 5, .int .i64 n, .slice ab b.length cb] 27) * emp)) → w'.cell? ⟨rb, 0, none⟩ = some (str tb9) ∧ w'.cell? ⟨rb, 1, none⟩ = some (.int .i64 loose9) ∧ w'.cell? ⟨rb, 2, none⟩ = some (.bool true) := fun w' s => hst_rcell s
                      have live : ∀ w', St w0.heap.size w0 w' (row 5 1 (.slice a10 tb9.length c10) tb9.length (bvs tb9) * Hst tb fb rb rfb ⟨tb9, loose9, false⟩ F9 ⟨tb9, loose9, false⟩ F9 (pts g (.cells #[.int .i64 5, .int .i64 n, .slice ab b.length cb] 27) * emp)) → Calls Try.prog 32 #[.pointer (some ⟨tb, 0, none⟩)] w' (RetS w0.heap.size w0 (row 5 1 (.slice a10 tb9.length c10) tb9.length (bvs tb9) * Hst tb fb rb rfb ⟨tb9, loose9, false⟩ F9 ⟨tb9, loose9, false⟩ F9 (pts g (.cells #[.int .i64 5, .int .i64 n, .slice ab b.length cb] 27) * emp)) (.bool true)) := fun w' s => hst_live w' s
                      have loosec : ∀ w', St w0.heap.size w0 w' (row 5 1 (.slice a10 tb9.length c10) tb9.length (bvs tb9) * Hst tb fb rb rfb ⟨tb9, loose9, false⟩ F9 ⟨tb9, loose9, false⟩ F9 (pts g (.cells #[.int .i64 5, .int .i64 n, .slice ab b.length cb] 27) * emp)) → Calls Try.prog 17 #[.pointer (some ⟨tb, 0, none⟩)] w' (RetS w0.heap.size w0 (row 5 1 (.slice a10 tb9.length c10) tb9.length (bvs tb9) * Hst tb fb rb rfb ⟨tb9, loose9, false⟩ F9 ⟨tb9, loose9, false⟩ F9 (pts g (.cells #[.int .i64 5, .int .i64 n, .slice ab b.length cb] 27) * emp)) (.int .i64 loose9)) := fun w' s => hst_loose w' s
                      refine RXl.exact (.pointer (some ⟨tb, 0, none⟩)) rfl rfl rfl rfl rfl (fun _ _ _ _ _ => rfl) ?_
                      refine RXl.callr (.bool true) _ [.pointer (some ⟨tb, 0, none⟩)] [.tmp 120] _ rfl rfl rfl rfl rfl rfl (fun _ => rfl) (fun j τ w' hj hJ => live w' hJ) ?_
                      refine RXl.exact (.pointer (some ⟨rb, 0, none⟩)) rfl rfl rfl rfl rfl (fun _ _ _ _ _ => rfl) ?_
                      refine RXl.exact (.pointer (some ⟨rb, 0, none⟩)) rfl rfl rfl rfl rfl (fun j τ w' hj hJ => by simp [rho, upd, Spec.val, execOp, go_sem]) ?_
                      refine RXl.exact (.pointer (some ⟨rb, 2, none⟩)) rfl rfl rfl rfl rfl (fun j τ w' hj hJ => by simp [rho, upd, Spec.val, execOp, go_sem]) ?_
                      refine RXl.exact (.bool true) rfl rfl rfl rfl rfl (fun j τ w' hj hJ => by have c := (rd w' hJ).2.2; simp [rho, upd, Spec.val, execOp, go_sem, c]) ?_
                      refine RXl.exact (.bool false) rfl rfl rfl rfl rfl (fun j τ w' hj hJ => by simp [rho, upd, Spec.val, execOp, go_sem]) ?_
                      refine RXl.exact (.bool false) rfl rfl rfl rfl rfl (fun _ _ _ _ _ => rfl) ?_
                      refine RXl.exact (.pointer (some ⟨rb, 0, none⟩)) rfl rfl rfl rfl rfl (fun _ _ _ _ _ => rfl) ?_
                      refine RXl.exact (.pointer (some ⟨rb, 0, none⟩)) rfl rfl rfl rfl rfl (fun j τ w' hj hJ => by simp [rho, upd, Spec.val, execOp, go_sem]) ?_
                      refine RXl.exact (.pointer (some ⟨rb, 2, none⟩)) rfl rfl rfl rfl rfl (fun j τ w' hj hJ => by simp [rho, upd, Spec.val, execOp, go_sem]) ?_
                      refine RXl.exact (.bool true) rfl rfl rfl rfl rfl (fun j τ w' hj hJ => by have c := (rd w' hJ).2.2; simp [rho, upd, Spec.val, execOp, go_sem, c]) ?_
                      refine RXl.exact (.bool true) rfl rfl rfl rfl rfl (fun _ _ _ _ _ => rfl) ?_
                      refine RXl.exact (.int .i64 0) rfl rfl rfl rfl rfl (fun _ _ _ _ _ => rfl) ?_
                      refine RXl.exact (.bool false) rfl rfl rfl rfl rfl (fun j τ w' hj hJ => by simp [rho, upd, Spec.val, execOp, go_sem]) ?_
                      refine RXl.exact (.bool false) rfl rfl rfl rfl rfl (fun _ _ _ _ _ => rfl) ?_
                      refine RXl.exact (.slice a10 tb9.length c10) rfl rfl rfl rfl rfl (fun _ _ _ _ _ => rfl) ?_
                      refine RXl.exact (str tb9) rfl rfl rfl rfl rfl (fun j τ w' hj hJ => exec_convert rfl (run_str Try.underlying25 Try.underlying5 Try.underlying9 (St.bs hJ))) ?_
                      refine RXl.exact (.pointer (some ⟨rb, 0, none⟩)) rfl rfl rfl rfl rfl (fun _ _ _ _ _ => rfl) ?_
                      refine RXl.exact (.pointer (some ⟨rb, 0, none⟩)) rfl rfl rfl rfl rfl (fun j τ w' hj hJ => by simp [rho, upd, Spec.val, execOp, go_sem]) ?_
                      refine RXl.exact (.pointer (some ⟨rb, 0, none⟩)) rfl rfl rfl rfl rfl (fun j τ w' hj hJ => by simp [rho, upd, Spec.val, execOp, go_sem]) ?_
                      refine RXl.exact (str tb9) rfl rfl rfl rfl rfl (fun j τ w' hj hJ => by have c := (rd w' hJ).1; simp [rho, upd, Spec.val, execOp, go_sem, c]) ?_
                      refine RXl.exact (.bool false) rfl rfl rfl rfl rfl (fun j τ w' hj hJ => by simp [rho, upd, Spec.val, execOp, go_sem]) ?_
                      refine RXl.exact (.bool false) rfl rfl rfl rfl rfl (fun _ _ _ _ _ => rfl) ?_
                      refine RXl.exact (.bool false) rfl rfl rfl rfl rfl (fun _ _ _ _ _ => rfl) ?_
                      refine RXl.exact (.pointer (some ⟨tb, 0, none⟩)) rfl rfl rfl rfl rfl (fun _ _ _ _ _ => rfl) ?_
                      refine RXl.callr (.int .i64 loose9) _ [.pointer (some ⟨tb, 0, none⟩)] [.tmp 145] _ rfl rfl rfl rfl rfl rfl (fun _ => rfl) (fun j τ w' hj hJ => loosec w' hJ) ?_
                      refine RXl.exact (.pointer (some ⟨rb, 0, none⟩)) rfl rfl rfl rfl rfl (fun _ _ _ _ _ => rfl) ?_
                      refine RXl.exact (.pointer (some ⟨rb, 0, none⟩)) rfl rfl rfl rfl rfl (fun j τ w' hj hJ => by simp [rho, upd, Spec.val, execOp, go_sem]) ?_
                      refine RXl.exact (.pointer (some ⟨rb, 1, none⟩)) rfl rfl rfl rfl rfl (fun j τ w' hj hJ => by simp [rho, upd, Spec.val, execOp, go_sem]) ?_
                      refine RXl.exact (.int .i64 loose9) rfl rfl rfl rfl rfl (fun j τ w' hj hJ => by have c := (rd w' hJ).2.1; simp [rho, upd, Spec.val, execOp, go_sem, c]) ?_
                      refine RXl.exact (.bool false) rfl rfl rfl rfl rfl (fun j τ w' hj hJ => by simp [rho, upd, Spec.val, execOp, go_sem]) ?_
                      refine RXl.exact (.bool false) rfl rfl rfl rfl rfl (fun _ _ _ _ _ => rfl) ?_
                      refine RXl.exact (.bool false) rfl rfl rfl rfl rfl (fun _ _ _ _ _ => rfl) ?_
                      refine RXl.exact (.bool false) rfl rfl rfl rfl rfl (fun _ _ _ _ _ => rfl) ?_
                      refine RXl.exact (.bool false) rfl rfl rfl rfl rfl (fun _ _ _ _ _ => rfl) ?_
                      refine RXl.exact (.pointer (some ⟨rb, 0, none⟩)) rfl rfl rfl rfl rfl (fun _ _ _ _ _ => rfl) ?_
                      refine RXl.exact (.pointer (some ⟨rb, 0, none⟩)) rfl rfl rfl rfl rfl (fun j τ w' hj hJ => by simp [rho, upd, Spec.val, execOp, go_sem]) ?_
                      refine RXl.exact (.pointer (some ⟨rb, 2, none⟩)) rfl rfl rfl rfl rfl (fun j τ w' hj hJ => by simp [rho, upd, Spec.val, execOp, go_sem]) ?_
                      refine RXl.exact (.bool true) rfl rfl rfl rfl rfl (fun j τ w' hj hJ => by have c := (rd w' hJ).2.2; simp [rho, upd, Spec.val, execOp, go_sem, c]) ?_
                      refine RXl.exact (.bool false) rfl rfl rfl rfl rfl (fun j τ w' hj hJ => by simp [rho, upd, Spec.val, execOp, go_sem]) ?_
                      refine RXl.exact (.bool false) rfl rfl rfl rfl rfl (fun _ _ _ _ _ => rfl) ?_
                      refine RXl.skip rfl rfl rfl rfl ?_
                      refine RXl.skip rfl rfl rfl rfl ?_
                      refine RXl.skip rfl rfl rfl rfl ?_
                      refine RXl.skip rfl rfl rfl rfl ?_
                      refine RXl.skip rfl rfl rfl rfl ?_
                      refine RXl.skip rfl rfl rfl rfl ?_
                      refine RXl.skip rfl rfl rfl rfl ?_
                      refine RXl.exact ((Value.bool false)) rfl rfl rfl rfl rfl (fun _ _ _ _ _ => rfl) ?_
                      refine RXl.exact ((Value.bool false)) rfl rfl rfl rfl rfl (fun _ _ _ _ _ => rfl) ?_
                      refine RXl.nilx _ (Agr.upd _ _ (Agr.upd _ _ (Agr.upd _ _ (Agr.upd _ _ (Agr.upd _ _ (Agr.upd _ _ (Agr.upd _ _ (Agr.upd _ _ (Agr.upd _ _ (Agr.upd _ _ (Agr.upd _ _ (Agr.upd _ _ (Agr.upd _ _ (Agr.upd _ _ (Agr.upd _ _ (Agr.upd _ _ (Agr.upd _ _ (Agr.upd _ _ (Agr.upd _ _ (Agr.upd _ _ (Agr.upd _ _ (Agr.upd _ _ (Agr.upd _ _ (Agr.upd _ _ (Agr.upd _ _ (Agr.upd _ _ (Agr.upd _ _ (Agr.upd _ _ (Agr.upd _ _ (Agr.upd _ _ (Agr.upd _ _ (Agr.upd _ _ (Agr.upd _ _ (Agr.upd _ _ (Agr.upd _ _ (Agr.upd _ _ (Agr.upd _ _ (Agr.upd _ _ (Agr.upd _ _ (Agr.upd _ _ (Agr.upd _ _ (Agr.upd _ _ (Agr.upd _ _ (Agr.upd _ _ (Agr.upd _ _ (Agr.upd _ _ (Agr.upd _ _ (Agr.upd _ _ (Agr.upd _ _ (Agr.upd _ _ (Agr.upd _ _ (Agr.base _)))))))))))))))))))))))))))))))))))))))))))))))))))) fun w11 hJ => ?_
                      obtain ⟨_, hJ⟩ := hJ
                      simp only [Act.put, List.setIfInBounds_toArray, List.set_cons_succ, List.set_cons_zero]
                      have S11 := Lib.hid (St.right hJ)
                      clear hJ rd live loosec S10
                      go_wp2_with fail
                      go_roundw
                      case rel => exact ⟨k + 1, by omega, by omega, by go_num, _, _, HOK9.out, HF9.out, (hst_y S11.out).right⟩
                      case measure => simp [intOf]; omega
                  · have e0 : (kd == 0) = false := by simpa using k0
                    have e1 : (kd == 1) = false := by simpa using k1
                    have e2 : (kd == 2) = false := by simpa using k2
                    have e3 : (kd == 3) = false := by simpa using k3
                    have e4 : (kd == 4) = false := by simpa using k4
                    have e5 : (kd == 5) = false := by simpa using k5
                    clear k0 k1 k2 k3 k4 k5
                    go_wp2_with fail
                    have s7 : St w0.heap.size w0 (wr.alloc (.cells #[.int .i64 kd, .int .i64 n, .slice ab b.length cb] 27)) (Hst tb fb rb rfb T F T F (pts wr.heap.size (.cells #[.int .i64 kd, .int .i64 n, .slice ab b.length cb] 27) * emp)) := hst_x (S6.out.alloc (.cells #[.int .i64 kd, .int .i64 n, .slice ab b.length cb] 27))
                    generalize wr.alloc _ = w7 at s7 ⊢
                    generalize wr.heap.size = g at s7 ⊢
                    have cg : ∀ w' T F T2 F2, St w0.heap.size w0 w' (Hst tb fb rb rfb T F T2 F2 (pts g (.cells #[.int .i64 kd, .int .i64 n, .slice ab b.length cb] 27) * emp)) → w'.cell? ⟨g, 1, none⟩ = some (.int .i64 n) ∧ w'.cell? ⟨g, 2, none⟩ = some (.slice ab b.length cb) := fun w' T F T2 F2 s => by
                      exact ⟨hst_g s 1, hst_g s 2⟩
                    have S7 := Lib.hid s7
                    have CG := Lib.hid cg
                    clear s7 cg S6 c0 c1 c2
                    clear e0 e1 e2 e3 e4 e5
                    refine (hst_set w7 n hn S7.out).mono ?_
                    rintro e w8 ⟨rfl, s8⟩
                    have S8 := Lib.hid s8
                    have d1 := (CG.out w8 _ _ _ _ s8).1
                    clear s8 S7
                    go_wp2_with fail
                    refine (rnewFuse_calls n w8 S8.out).mono ?_
                    rintro e w9 ⟨q, rfl, s9⟩
                    have q9 : St w0.heap.size w0 w9 (pts q (.cells #[.bool (!(Fu.new n).bound), .int .i64 (Fu.new n).left] 51 (0, 0)) * Hst tb fb rb rfb T (Fu.new n) T F (pts g (.cells #[.int .i64 kd, .int .i64 n, .slice ab b.length cb] 27) * emp)) := s9
                    have c0 := q9.cell 0
                    have c1 := q9.cell 1
                    have q10 := hst_rfz q9.right
                    have d0 := q10.cell 0
                    have f0 := q10.free 0
                    have f1 := q10.free 1
                    have d2 := q10.cell 1
                    have S9' := Lib.hid q9.right
                    clear s9 q9 q10 S8 d1
                    generalize hG : Fu.new n = G at *
                    have HG := Lib.hid hG
                    clear hG
                    simp at c0 c1 d0 d2
                    go_wp2_with fail
                    have s10 := hst_rset (G := G) S9'.out
                    generalize (w9.setCell _ _).setCell _ _ = w10' at s10 ⊢
                    clear c0 c1 d0 d2 f0 f1 S9'
                    have hfn : fits G := HG.out ▸ new_fits hn
                    have HFN := Lib.hid hfn
                    clear hfn
                    have S9 := Lib.hid (show St w0.heap.size w0 w10' (Hst tb fb rb rfb T G T G (pts g (.cells #[.int .i64 kd, .int .i64 n, .slice ab b.length cb] 27) * emp)) from s10)
                    have HOK9 := Lib.hid (show (T).ok from HOK.out)
                    have HF9 := Lib.hid (show fits (G) from HFN.out)
                    generalize T = T9 at S9 HOK9
                    generalize G = F9 at S9 HF9
                    clear s10 CG HOK HFT HFN HG
                    go_wp2_with fail
                    refine (bytes_calls T9 _ _ _ S9.out).mono ?_
                    rintro e w10 ⟨a10, c10, he, s10⟩
                    obtain ⟨tb9, loose9, gone9⟩ := T9
                    cases gone9 with
                    | true =>
                      have he : e = .returned (.tuple #[.slice a10 0 c10, .int .i64 5]) := he
                      subst he
                      have S10 := Lib.hid (show St w0.heap.size w0 w10 (row 5 1 (.slice a10 0 c10) 0 (bvs []) * Hst tb fb rb rfb ⟨tb9, loose9, true⟩ F9 ⟨tb9, loose9, true⟩ F9 (pts g (.cells #[.int .i64 kd, .int .i64 n, .slice ab b.length cb] 27) * emp)) from s10)
                      clear s10 S9
                      go_wp2_with fail
                      refine wp_region_rx (fun j w => St w0.heap.size w0 w (row 5 1 (.slice a10 0 c10) 0 (bvs []) * Hst tb fb rb rfb ⟨tb9, loose9, true⟩ F9 ⟨tb9, loose9, true⟩ F9 (pts g (.cells #[.int .i64 kd, .int .i64 n, .slice ab b.length cb] 27) * emp))) [] mixed (by kernel_rfl) (by kernel_rfl) S10.out.drew ?_
                      have rd : ∀ w', St w0.heap.size w0 w' (row 5 1 (.slice a10 0 c10) 0 (bvs []) * Hst tb fb rb rfb ⟨tb9, loose9, true⟩ F9 ⟨tb9, loose9, true⟩ F9 (pts g (.cells #[.int .i64 kd, .int .i64 n, .slice ab b.length cb] 27) * emp)) → w'.cell? ⟨rb, 0, none⟩ = some (str tb9) ∧ w'.cell? ⟨rb, 1, none⟩ = some (.int .i64 loose9) ∧ w'.cell? ⟨rb, 2, none⟩ = some (.bool false) := fun w' s => hst_rcell s
                      have live : ∀ w', St w0.heap.size w0 w' (row 5 1 (.slice a10 0 c10) 0 (bvs []) * Hst tb fb rb rfb ⟨tb9, loose9, true⟩ F9 ⟨tb9, loose9, true⟩ F9 (pts g (.cells #[.int .i64 kd, .int .i64 n, .slice ab b.length cb] 27) * emp)) → Calls Try.prog 32 #[.pointer (some ⟨tb, 0, none⟩)] w' (RetS w0.heap.size w0 (row 5 1 (.slice a10 0 c10) 0 (bvs []) * Hst tb fb rb rfb ⟨tb9, loose9, true⟩ F9 ⟨tb9, loose9, true⟩ F9 (pts g (.cells #[.int .i64 kd, .int .i64 n, .slice ab b.length cb] 27) * emp)) (.bool false)) := fun w' s => hst_live w' s
                      refine RXl.exact (.pointer (some ⟨tb, 0, none⟩)) rfl rfl rfl rfl rfl (fun _ _ _ _ _ => rfl) ?_
                      refine RXl.callr (.bool false) _ [.pointer (some ⟨tb, 0, none⟩)] [.tmp 120] _ rfl rfl rfl rfl rfl rfl (fun _ => rfl) (fun j τ w' hj hJ => live w' hJ) ?_
                      refine RXl.exact (.pointer (some ⟨rb, 0, none⟩)) rfl rfl rfl rfl rfl (fun _ _ _ _ _ => rfl) ?_
                      refine RXl.exact (.pointer (some ⟨rb, 0, none⟩)) rfl rfl rfl rfl rfl (fun j τ w' hj hJ => by simp [rho, upd, Spec.val, execOp, go_sem]) ?_
                      refine RXl.exact (.pointer (some ⟨rb, 2, none⟩)) rfl rfl rfl rfl rfl (fun j τ w' hj hJ => by simp [rho, upd, Spec.val, execOp, go_sem]) ?_
                      refine RXl.exact (.bool false) rfl rfl rfl rfl rfl (fun j τ w' hj hJ => by have c := (rd w' hJ).2.2; simp [rho, upd, Spec.val, execOp, go_sem, c]) ?_
                      refine RXl.exact (.bool false) rfl rfl rfl rfl rfl (fun j τ w' hj hJ => by simp [rho, upd, Spec.val, execOp, go_sem]) ?_
                      refine RXl.exact (.bool false) rfl rfl rfl rfl rfl (fun _ _ _ _ _ => rfl) ?_
                      refine RXl.exact (.pointer (some ⟨rb, 0, none⟩)) rfl rfl rfl rfl rfl (fun _ _ _ _ _ => rfl) ?_
                      refine RXl.exact (.pointer (some ⟨rb, 0, none⟩)) rfl rfl rfl rfl rfl (fun j τ w' hj hJ => by simp [rho, upd, Spec.val, execOp, go_sem]) ?_
                      refine RXl.exact (.pointer (some ⟨rb, 2, none⟩)) rfl rfl rfl rfl rfl (fun j τ w' hj hJ => by simp [rho, upd, Spec.val, execOp, go_sem]) ?_
                      refine RXl.exact (.bool false) rfl rfl rfl rfl rfl (fun j τ w' hj hJ => by have c := (rd w' hJ).2.2; simp [rho, upd, Spec.val, execOp, go_sem, c]) ?_
                      refine RXl.exact (.bool false) rfl rfl rfl rfl rfl (fun _ _ _ _ _ => rfl) ?_
                      refine RXl.skip rfl rfl rfl rfl ?_
                      refine RXl.skip rfl rfl rfl rfl ?_
                      refine RXl.skip rfl rfl rfl rfl ?_
                      refine RXl.skip rfl rfl rfl rfl ?_
                      refine RXl.skip rfl rfl rfl rfl ?_
                      refine RXl.skip rfl rfl rfl rfl ?_
                      refine RXl.skip rfl rfl rfl rfl ?_
                      refine RXl.skip rfl rfl rfl rfl ?_
                      refine RXl.skip rfl rfl rfl rfl ?_
                      refine RXl.skip rfl rfl rfl rfl ?_
                      refine RXl.skip rfl rfl rfl rfl ?_
                      refine RXl.skip rfl rfl rfl rfl ?_
                      refine RXl.skip rfl rfl rfl rfl ?_
                      refine RXl.skip rfl rfl rfl rfl ?_
                      refine RXl.skip rfl rfl rfl rfl ?_
                      refine RXl.skip rfl rfl rfl rfl ?_
                      refine RXl.skip rfl rfl rfl rfl ?_
                      refine RXl.skip rfl rfl rfl rfl ?_
                      refine RXl.skip rfl rfl rfl rfl ?_
                      refine RXl.skip rfl rfl rfl rfl ?_
                      refine RXl.exact (.bool false) rfl rfl rfl rfl rfl (fun _ _ _ _ _ => rfl) ?_
                      refine RXl.exact (.bool false) rfl rfl rfl rfl rfl (fun _ _ _ _ _ => rfl) ?_
                      refine RXl.exact (.bool false) rfl rfl rfl rfl rfl (fun _ _ _ _ _ => rfl) ?_
                      refine RXl.exact (.pointer (some ⟨rb, 0, none⟩)) rfl rfl rfl rfl rfl (fun _ _ _ _ _ => rfl) ?_
                      refine RXl.exact (.pointer (some ⟨rb, 0, none⟩)) rfl rfl rfl rfl rfl (fun j τ w' hj hJ => by simp [rho, upd, Spec.val, execOp, go_sem]) ?_
                      refine RXl.exact (.pointer (some ⟨rb, 2, none⟩)) rfl rfl rfl rfl rfl (fun j τ w' hj hJ => by simp [rho, upd, Spec.val, execOp, go_sem]) ?_
                      refine RXl.exact (.bool false) rfl rfl rfl rfl rfl (fun j τ w' hj hJ => by have c := (rd w' hJ).2.2; simp [rho, upd, Spec.val, execOp, go_sem, c]) ?_
                      refine RXl.exact (.bool true) rfl rfl rfl rfl rfl (fun j τ w' hj hJ => by simp [rho, upd, Spec.val, execOp, go_sem]) ?_
                      refine RXl.exact (.bool true) rfl rfl rfl rfl rfl (fun _ _ _ _ _ => rfl) ?_
                      refine RXl.exact (.int .i64 5) rfl rfl rfl rfl rfl (fun _ _ _ _ _ => rfl) ?_
                      refine RXl.exact (.bool false) rfl rfl rfl rfl rfl (fun j τ w' hj hJ => by simp [rho, upd, Spec.val, execOp, go_sem]) ?_
                      refine RXl.exact (.bool false) rfl rfl rfl rfl rfl (fun _ _ _ _ _ => rfl) ?_
                      refine RXl.exact (.slice a10 0 c10) rfl rfl rfl rfl rfl (fun _ _ _ _ _ => rfl) ?_
                      refine RXl.exact (.int .i64 0) rfl rfl rfl rfl rfl (fun j τ w' hj hJ => by simp [rho, upd, Spec.val, execOp, go_sem]) ?_
                      refine RXl.exact (.bool false) rfl rfl rfl rfl rfl (fun j τ w' hj hJ => by simp [rho, upd, Spec.val, execOp, go_sem]) ?_
                      refine RXl.exact (.bool false) rfl rfl rfl rfl rfl (fun _ _ _ _ _ => rfl) ?_
                      refine RXl.exact (.bool false) rfl rfl rfl rfl rfl (fun _ _ _ _ _ => rfl) ?_
                      refine RXl.exact (.bool false) rfl rfl rfl rfl rfl (fun _ _ _ _ _ => rfl) ?_
                      refine RXl.nilx _ (Agr.upd _ _ (Agr.upd _ _ (Agr.upd _ _ (Agr.upd _ _ (Agr.upd _ _ (Agr.upd _ _ (Agr.upd _ _ (Agr.upd _ _ (Agr.upd _ _ (Agr.upd _ _ (Agr.upd _ _ (Agr.upd _ _ (Agr.upd _ _ (Agr.upd _ _ (Agr.upd _ _ (Agr.upd _ _ (Agr.upd _ _ (Agr.upd _ _ (Agr.upd _ _ (Agr.upd _ _ (Agr.upd _ _ (Agr.upd _ _ (Agr.upd _ _ (Agr.upd _ _ (Agr.upd _ _ (Agr.upd _ _ (Agr.upd _ _ (Agr.upd _ _ (Agr.upd _ _ (Agr.upd _ _ (Agr.upd _ _ (Agr.upd _ _ (Agr.upd _ _ (Agr.upd _ _ (Agr.upd _ _ (Agr.upd _ _ (Agr.upd _ _ (Agr.upd _ _ (Agr.upd _ _ (Agr.upd _ _ (Agr.upd _ _ (Agr.upd _ _ (Agr.upd _ _ (Agr.upd _ _ (Agr.upd _ _ (Agr.upd _ _ (Agr.upd _ _ (Agr.upd _ _ (Agr.upd _ _ (Agr.upd _ _ (Agr.upd _ _ (Agr.base _)))))))))))))))))))))))))))))))))))))))))))))))))))) fun w11 hJ => ?_
                      obtain ⟨_, hJ⟩ := hJ
                      simp only [Act.put, List.setIfInBounds_toArray, List.set_cons_succ, List.set_cons_zero]
                      have S11 := Lib.hid (St.right hJ)
                      clear hJ rd live S10
                      go_wp2_with fail
                      go_roundw
                      case rel => exact ⟨k + 1, by omega, by omega, by go_num, _, _, HOK9.out, HF9.out, (hst_y S11.out).right⟩
                      case measure => simp [intOf]; omega
                    | false =>
                      have he : e = .returned (.tuple #[.slice a10 tb9.length c10, .int .i64 0]) := he
                      subst he
                      have S10 := Lib.hid (show St w0.heap.size w0 w10 (row 5 1 (.slice a10 tb9.length c10) tb9.length (bvs tb9) * Hst tb fb rb rfb ⟨tb9, loose9, false⟩ F9 ⟨tb9, loose9, false⟩ F9 (pts g (.cells #[.int .i64 kd, .int .i64 n, .slice ab b.length cb] 27) * emp)) from s10)
                      clear s10 S9
                      go_wp2_with fail
                      refine wp_region_rx (fun j w => St w0.heap.size w0 w (row 5 1 (.slice a10 tb9.length c10) tb9.length (bvs tb9) * Hst tb fb rb rfb ⟨tb9, loose9, false⟩ F9 ⟨tb9, loose9, false⟩ F9 (pts g (.cells #[.int .i64 kd, .int .i64 n, .slice ab b.length cb] 27) * emp))) [] mixed (by kernel_rfl) (by kernel_rfl) S10.out.drew ?_
                      have rd : ∀ w', St w0.heap.size w0 w' (row 5 1 (.slice a10 tb9.length c10) tb9.length (bvs tb9) * Hst tb fb rb rfb ⟨tb9, loose9, false⟩ F9 ⟨tb9, loose9, false⟩ F9 (pts g (.cells #[.int .i64 kd, .int .i64 n, .slice ab b.length cb] 27) * emp)) → w'.cell? ⟨rb, 0, none⟩ = some (str tb9) ∧ w'.cell? ⟨rb, 1, none⟩ = some (.int .i64 loose9) ∧ w'.cell? ⟨rb, 2, none⟩ = some (.bool true) := fun w' s => hst_rcell s
                      have live : ∀ w', St w0.heap.size w0 w' (row 5 1 (.slice a10 tb9.length c10) tb9.length (bvs tb9) * Hst tb fb rb rfb ⟨tb9, loose9, false⟩ F9 ⟨tb9, loose9, false⟩ F9 (pts g (.cells #[.int .i64 kd, .int .i64 n, .slice ab b.length cb] 27) * emp)) → Calls Try.prog 32 #[.pointer (some ⟨tb, 0, none⟩)] w' (RetS w0.heap.size w0 (row 5 1 (.slice a10 tb9.length c10) tb9.length (bvs tb9) * Hst tb fb rb rfb ⟨tb9, loose9, false⟩ F9 ⟨tb9, loose9, false⟩ F9 (pts g (.cells #[.int .i64 kd, .int .i64 n, .slice ab b.length cb] 27) * emp)) (.bool true)) := fun w' s => hst_live w' s
                      have loosec : ∀ w', St w0.heap.size w0 w' (row 5 1 (.slice a10 tb9.length c10) tb9.length (bvs tb9) * Hst tb fb rb rfb ⟨tb9, loose9, false⟩ F9 ⟨tb9, loose9, false⟩ F9 (pts g (.cells #[.int .i64 kd, .int .i64 n, .slice ab b.length cb] 27) * emp)) → Calls Try.prog 17 #[.pointer (some ⟨tb, 0, none⟩)] w' (RetS w0.heap.size w0 (row 5 1 (.slice a10 tb9.length c10) tb9.length (bvs tb9) * Hst tb fb rb rfb ⟨tb9, loose9, false⟩ F9 ⟨tb9, loose9, false⟩ F9 (pts g (.cells #[.int .i64 kd, .int .i64 n, .slice ab b.length cb] 27) * emp)) (.int .i64 loose9)) := fun w' s => hst_loose w' s
                      refine RXl.exact (.pointer (some ⟨tb, 0, none⟩)) rfl rfl rfl rfl rfl (fun _ _ _ _ _ => rfl) ?_
                      refine RXl.callr (.bool true) _ [.pointer (some ⟨tb, 0, none⟩)] [.tmp 120] _ rfl rfl rfl rfl rfl rfl (fun _ => rfl) (fun j τ w' hj hJ => live w' hJ) ?_
                      refine RXl.exact (.pointer (some ⟨rb, 0, none⟩)) rfl rfl rfl rfl rfl (fun _ _ _ _ _ => rfl) ?_
                      refine RXl.exact (.pointer (some ⟨rb, 0, none⟩)) rfl rfl rfl rfl rfl (fun j τ w' hj hJ => by simp [rho, upd, Spec.val, execOp, go_sem]) ?_
                      refine RXl.exact (.pointer (some ⟨rb, 2, none⟩)) rfl rfl rfl rfl rfl (fun j τ w' hj hJ => by simp [rho, upd, Spec.val, execOp, go_sem]) ?_
                      refine RXl.exact (.bool true) rfl rfl rfl rfl rfl (fun j τ w' hj hJ => by have c := (rd w' hJ).2.2; simp [rho, upd, Spec.val, execOp, go_sem, c]) ?_
                      refine RXl.exact (.bool false) rfl rfl rfl rfl rfl (fun j τ w' hj hJ => by simp [rho, upd, Spec.val, execOp, go_sem]) ?_
                      refine RXl.exact (.bool false) rfl rfl rfl rfl rfl (fun _ _ _ _ _ => rfl) ?_
                      refine RXl.exact (.pointer (some ⟨rb, 0, none⟩)) rfl rfl rfl rfl rfl (fun _ _ _ _ _ => rfl) ?_
                      refine RXl.exact (.pointer (some ⟨rb, 0, none⟩)) rfl rfl rfl rfl rfl (fun j τ w' hj hJ => by simp [rho, upd, Spec.val, execOp, go_sem]) ?_
                      refine RXl.exact (.pointer (some ⟨rb, 2, none⟩)) rfl rfl rfl rfl rfl (fun j τ w' hj hJ => by simp [rho, upd, Spec.val, execOp, go_sem]) ?_
                      refine RXl.exact (.bool true) rfl rfl rfl rfl rfl (fun j τ w' hj hJ => by have c := (rd w' hJ).2.2; simp [rho, upd, Spec.val, execOp, go_sem, c]) ?_
                      refine RXl.exact (.bool true) rfl rfl rfl rfl rfl (fun _ _ _ _ _ => rfl) ?_
                      refine RXl.exact (.int .i64 0) rfl rfl rfl rfl rfl (fun _ _ _ _ _ => rfl) ?_
                      refine RXl.exact (.bool false) rfl rfl rfl rfl rfl (fun j τ w' hj hJ => by simp [rho, upd, Spec.val, execOp, go_sem]) ?_
                      refine RXl.exact (.bool false) rfl rfl rfl rfl rfl (fun _ _ _ _ _ => rfl) ?_
                      refine RXl.exact (.slice a10 tb9.length c10) rfl rfl rfl rfl rfl (fun _ _ _ _ _ => rfl) ?_
                      refine RXl.exact (str tb9) rfl rfl rfl rfl rfl (fun j τ w' hj hJ => exec_convert rfl (run_str Try.underlying25 Try.underlying5 Try.underlying9 (St.bs hJ))) ?_
                      refine RXl.exact (.pointer (some ⟨rb, 0, none⟩)) rfl rfl rfl rfl rfl (fun _ _ _ _ _ => rfl) ?_
                      refine RXl.exact (.pointer (some ⟨rb, 0, none⟩)) rfl rfl rfl rfl rfl (fun j τ w' hj hJ => by simp [rho, upd, Spec.val, execOp, go_sem]) ?_
                      refine RXl.exact (.pointer (some ⟨rb, 0, none⟩)) rfl rfl rfl rfl rfl (fun j τ w' hj hJ => by simp [rho, upd, Spec.val, execOp, go_sem]) ?_
                      refine RXl.exact (str tb9) rfl rfl rfl rfl rfl (fun j τ w' hj hJ => by have c := (rd w' hJ).1; simp [rho, upd, Spec.val, execOp, go_sem, c]) ?_
                      refine RXl.exact (.bool false) rfl rfl rfl rfl rfl (fun j τ w' hj hJ => by simp [rho, upd, Spec.val, execOp, go_sem]) ?_
                      refine RXl.exact (.bool false) rfl rfl rfl rfl rfl (fun _ _ _ _ _ => rfl) ?_
                      refine RXl.exact (.bool false) rfl rfl rfl rfl rfl (fun _ _ _ _ _ => rfl) ?_
                      refine RXl.exact (.pointer (some ⟨tb, 0, none⟩)) rfl rfl rfl rfl rfl (fun _ _ _ _ _ => rfl) ?_
                      refine RXl.callr (.int .i64 loose9) _ [.pointer (some ⟨tb, 0, none⟩)] [.tmp 145] _ rfl rfl rfl rfl rfl rfl (fun _ => rfl) (fun j τ w' hj hJ => loosec w' hJ) ?_
                      refine RXl.exact (.pointer (some ⟨rb, 0, none⟩)) rfl rfl rfl rfl rfl (fun _ _ _ _ _ => rfl) ?_
                      refine RXl.exact (.pointer (some ⟨rb, 0, none⟩)) rfl rfl rfl rfl rfl (fun j τ w' hj hJ => by simp [rho, upd, Spec.val, execOp, go_sem]) ?_
                      refine RXl.exact (.pointer (some ⟨rb, 1, none⟩)) rfl rfl rfl rfl rfl (fun j τ w' hj hJ => by simp [rho, upd, Spec.val, execOp, go_sem]) ?_
                      refine RXl.exact (.int .i64 loose9) rfl rfl rfl rfl rfl (fun j τ w' hj hJ => by have c := (rd w' hJ).2.1; simp [rho, upd, Spec.val, execOp, go_sem, c]) ?_
                      refine RXl.exact (.bool false) rfl rfl rfl rfl rfl (fun j τ w' hj hJ => by simp [rho, upd, Spec.val, execOp, go_sem]) ?_
                      refine RXl.exact (.bool false) rfl rfl rfl rfl rfl (fun _ _ _ _ _ => rfl) ?_
                      refine RXl.exact (.bool false) rfl rfl rfl rfl rfl (fun _ _ _ _ _ => rfl) ?_
                      refine RXl.exact (.bool false) rfl rfl rfl rfl rfl (fun _ _ _ _ _ => rfl) ?_
                      refine RXl.exact (.bool false) rfl rfl rfl rfl rfl (fun _ _ _ _ _ => rfl) ?_
                      refine RXl.exact (.pointer (some ⟨rb, 0, none⟩)) rfl rfl rfl rfl rfl (fun _ _ _ _ _ => rfl) ?_
                      refine RXl.exact (.pointer (some ⟨rb, 0, none⟩)) rfl rfl rfl rfl rfl (fun j τ w' hj hJ => by simp [rho, upd, Spec.val, execOp, go_sem]) ?_
                      refine RXl.exact (.pointer (some ⟨rb, 2, none⟩)) rfl rfl rfl rfl rfl (fun j τ w' hj hJ => by simp [rho, upd, Spec.val, execOp, go_sem]) ?_
                      refine RXl.exact (.bool true) rfl rfl rfl rfl rfl (fun j τ w' hj hJ => by have c := (rd w' hJ).2.2; simp [rho, upd, Spec.val, execOp, go_sem, c]) ?_
                      refine RXl.exact (.bool false) rfl rfl rfl rfl rfl (fun j τ w' hj hJ => by simp [rho, upd, Spec.val, execOp, go_sem]) ?_
                      refine RXl.exact (.bool false) rfl rfl rfl rfl rfl (fun _ _ _ _ _ => rfl) ?_
                      refine RXl.skip rfl rfl rfl rfl ?_
                      refine RXl.skip rfl rfl rfl rfl ?_
                      refine RXl.skip rfl rfl rfl rfl ?_
                      refine RXl.skip rfl rfl rfl rfl ?_
                      refine RXl.skip rfl rfl rfl rfl ?_
                      refine RXl.skip rfl rfl rfl rfl ?_
                      refine RXl.skip rfl rfl rfl rfl ?_
                      refine RXl.exact ((Value.bool false)) rfl rfl rfl rfl rfl (fun _ _ _ _ _ => rfl) ?_
                      refine RXl.exact ((Value.bool false)) rfl rfl rfl rfl rfl (fun _ _ _ _ _ => rfl) ?_
                      refine RXl.nilx _ (Agr.upd _ _ (Agr.upd _ _ (Agr.upd _ _ (Agr.upd _ _ (Agr.upd _ _ (Agr.upd _ _ (Agr.upd _ _ (Agr.upd _ _ (Agr.upd _ _ (Agr.upd _ _ (Agr.upd _ _ (Agr.upd _ _ (Agr.upd _ _ (Agr.upd _ _ (Agr.upd _ _ (Agr.upd _ _ (Agr.upd _ _ (Agr.upd _ _ (Agr.upd _ _ (Agr.upd _ _ (Agr.upd _ _ (Agr.upd _ _ (Agr.upd _ _ (Agr.upd _ _ (Agr.upd _ _ (Agr.upd _ _ (Agr.upd _ _ (Agr.upd _ _ (Agr.upd _ _ (Agr.upd _ _ (Agr.upd _ _ (Agr.upd _ _ (Agr.upd _ _ (Agr.upd _ _ (Agr.upd _ _ (Agr.upd _ _ (Agr.upd _ _ (Agr.upd _ _ (Agr.upd _ _ (Agr.upd _ _ (Agr.upd _ _ (Agr.upd _ _ (Agr.upd _ _ (Agr.upd _ _ (Agr.upd _ _ (Agr.upd _ _ (Agr.upd _ _ (Agr.upd _ _ (Agr.upd _ _ (Agr.upd _ _ (Agr.upd _ _ (Agr.base _)))))))))))))))))))))))))))))))))))))))))))))))))))) fun w11 hJ => ?_
                      obtain ⟨_, hJ⟩ := hJ
                      simp only [Act.put, List.setIfInBounds_toArray, List.set_cons_succ, List.set_cons_zero]
                      have S11 := Lib.hid (St.right hJ)
                      clear hJ rd live loosec S10
                      go_wp2_with fail
                      go_roundw
                      case rel => exact ⟨k + 1, by omega, by omega, by go_num, _, _, HOK9.out, HF9.out, (hst_y S11.out).right⟩
                      case measure => simp [intOf]; omega
    · have hend : l.length ≤ k ∨ k < l.length ∧ 60 ≤ k := by omega
      clear hlt
      rcases hend with hend | ⟨hend, hend2⟩
      · skip
        go_wp2_with fail
        go_ret
        exact ⟨rfl, S6.out.below⟩
      · skip
        go_wp2_with fail
        go_ret
        exact ⟨rfl, S6.out.below⟩
end Go.Proofs.Yteikpbangjpilaa.TapL
