/- The document's tape and Fuse, walked: they do what the program's do. No condition. -/
import Derived.Test.YtkkkncchinejmaaTapW
import Derived.Test.YtkkkncchinejmaaSlo
import Derived.Test.YtkkkncchinejmaaRex
namespace Go.Proofs.Ytkkkncchinejmaa.TapR
open Go Go.RowKit Go.Proofs.Ytkkkncchinejmaa Go.Proofs.Ytkkkncchinejmaa.Sp Go.Proofs.Ytkkkncchinejmaa.Reg Go.Proofs.Ytkkkncchinejmaa.SlW Go.Proofs.Ytkkkncchinejmaa.Fus Go.Proofs.Ytkkkncchinejmaa.TapW

/-- The document's Fuse. -/
def rfz (b : Nat) (f : Fu) : HP := pts b (.cells #[.bool (!f.bound), .int .i64 f.left] 75 (0, 0))
/-- The document's tape. -/
def rtp (bk : Nat) (fv : Value) (T : Tp) : HP := pts bk (.cells #[str T.b, .int .i64 T.loose, .bool (!T.gone), fv] 70 (0, 0))
section
variable {B : Nat} {w0 : World} {R : HP}
set_option maxHeartbeats 400000 in
theorem rnewFuse_calls (k : Int) (w : World) (s : St B w0 w R) :
    Calls Try.prog 30 #[.int .i64 k] w (fun e w' => ∃ b, e = .returned (.pointer (some ⟨b, 0, none⟩)) ∧ St B w0 w' (rfz b (Fu.new k) * R)) := by
  have hm := fun w : World => run_max2 (P := Try.prog) w .i64 #[3, 3] 3 k 0
  have hmx : max k 0 = ((Fu.new k).left : Int) := by show max k 0 = (k.toNat : Int); omega
  have hb : (decide (k < 1)) = !(Fu.new k).bound := by show decide (k < 1) = !decide (1 ≤ k); rw [Bool.eq_iff_iff]; simp <;> omega
  have S := Lib.hid s
  have Hmx := Lib.hid hmx
  have Hb := Lib.hid hb
  clear s hmx hb
  go_enter Try.func30, Try.ntmps30
  go_wp2_with fail
  go_ret
  refine ⟨_, rfl, ?_⟩
  unfold rfz
  rw [← Hmx.out, ← Hb.out]
  exact S.out.alloc _
set_option maxHeartbeats 400000 in
theorem rdead_calls (f : Fu) (b : Nat) (w : World) (s : St B w0 w (rfz b f * R)) :
    Calls Try.prog 61 #[.pointer (some ⟨b, 0, none⟩)] w (RetS B w0 (rfz b f * R) (.bool (fdead (some f)))) := by
  have s1 : St B w0 w (pts b (.cells #[.bool (!f.bound), .int .i64 f.left] 75 (0, 0)) * R) := s
  obtain ⟨l, bd⟩ := f
  have c0 := s1.cell 0
  have c1 := s1.cell 1
  have f0 := s1.free 0
  have f1 := s1.free 1
  simp at c0 c1
  have S := Lib.hid s
  clear s
  clear s1
  cases bd with
  | false =>
    simp at c0
    go_enter Try.func61, Try.ntmps61
    go_wp2_with fail
    go_ret
    exact ⟨rfl, S.out⟩
  | true =>
    simp at c0
    have hd : ((l : Int) == 0) = decide (l = 0) := by rw [Bool.eq_iff_iff]; simp
    have Hd := Lib.hid hd
    clear hd
    go_enter Try.func61, Try.ntmps61
    go_wp2_with fail
    go_ret
    exact ⟨by simp [fdead, Hd.out], S.out⟩
set_option maxHeartbeats 400000 in
theorem rspend_no (f : Fu) (b : Nat) (w : World) (h : fdead (some f) = true) (s : St B w0 w (rfz b f * R)) :
    Calls Try.prog 60 #[.pointer (some ⟨b, 0, none⟩)] w (RetS B w0 (rfz b f * R) (.bool false)) := by
  have s1 : St B w0 w (pts b (.cells #[.bool (!f.bound), .int .i64 f.left] 75 (0, 0)) * R) := s
  obtain ⟨l, bd⟩ := f
  obtain ⟨rfl, rfl⟩ : bd = true ∧ l = 0 := by simpa [fdead] using h
  have c0 := s1.cell 0
  have c1 := s1.cell 1
  have f0 := s1.free 0
  have f1 := s1.free 1
  simp at c0 c1
  have S := Lib.hid s
  clear s
  clear s1 h
  go_enter Try.func60, Try.ntmps60
  go_wp2_with fail
  go_ret
  exact ⟨rfl, S.out⟩
set_option maxHeartbeats 400000 in
theorem rspend_yes (f : Fu) (b : Nat) (w : World) (h : fdead (some f) = false) (hl : f.left ≤ 9223372036854775807) (s : St B w0 w (rfz b f * R)) :
    Calls Try.prog 60 #[.pointer (some ⟨b, 0, none⟩)] w (RetS B w0 (rfz b (if f.bound = true then { f with left := f.left - 1 } else f) * R) (.bool true)) := by
  have s1 : St B w0 w (pts b (.cells #[.bool (!f.bound), .int .i64 f.left] 75 (0, 0)) * R) := s
  obtain ⟨l, bd⟩ := f
  have c0 := s1.cell 0
  have c1 := s1.cell 1
  have f0 := s1.free 0
  have f1 := s1.free 1
  simp at c0 c1
  have S1 := Lib.hid s1
  have S := Lib.hid s
  clear s
  clear s1
  cases bd with
  | false =>
    simp at c0
    clear h
    go_enter Try.func60, Try.ntmps60
    go_wp2_with fail
    go_ret
    exact ⟨rfl, S.out⟩
  | true =>
    simp at c0 hl
    have hne : l ≠ 0 := by simpa [fdead] using h
    have hpos : (1 : Int) ≤ l := by omega
    have hz : ((l : Int) == 0) = false := by simp; omega
    clear h hne
    go_enter Try.func60, Try.ntmps60
    go_wp2_with fail
    go_ret
    have := S1.out.set 1 (.int .i64 ((l : Int) - 1))
    rw [show ((l : Int) - 1) = ((l - 1 : Nat) : Int) by omega] at *
    exact ⟨rfl, this⟩
set_option maxHeartbeats 400000 in
theorem rnewTape_calls (x : Option Addr) (w : World) (s : St B w0 w R) :
    Calls Try.prog 31 #[.pointer x] w (fun e w' => ∃ b, e = .returned (.pointer (some ⟨b, 0, none⟩)) ∧ St B w0 w' (rtp b (.pointer x) Tp.new * R)) := by
  have S := Lib.hid s
  clear s
  go_enter Try.func31, Try.ntmps31
  go_wp2_with fail
  go_ret
  exact ⟨_, rfl, S.out.alloc (.cells #[.string ⟨#[]⟩, .int .i64 0, .bool true, .pointer x] 70)⟩
theorem rtp_cells {w : World} {bk : Nat} {fv : Value} {T : Tp} (s : St B w0 w (rtp bk fv T * R)) : St B w0 w (pts bk (.cells #[str T.b, .int .i64 T.loose, .bool (!T.gone), fv] 70 (0, 0)) * R) := s

set_option maxHeartbeats 1000000 in
theorem rappend_calls (f : Fu) (T : Tp) (hok : T.ok) (bs : List UInt8) (bk fb : Nat) (w : World) (hn : bs.length ≤ 4611686018427387904) (hl : f.left ≤ 9223372036854775807) (s : St B w0 w (rtp bk (.pointer (some ⟨fb, 0, none⟩)) T * (rfz fb f * R))) :
    Calls Try.prog 53 #[.pointer (some ⟨bk, 0, none⟩), str bs] w
      (RetS B w0 (rtp bk (.pointer (some ⟨fb, 0, none⟩)) (tApp (some f) T bs).2.2 * (rfz fb ((tApp (some f) T bs).2.1.getD f) * R)) (.int .i64 (tApp (some f) T bs).1)) := by
  have s1 := rtp_cells s
  obtain ⟨b, loose, gone⟩ := T
  obtain ⟨ok1, ok2⟩ := hok
  simp at ok1 ok2
  have c0 := s1.cell 0
  have c1 := s1.cell 1
  have c2 := s1.cell 2
  have c3 := s1.cell 3
  have f0 := s1.free 0
  have f1 := s1.free 1
  have f2 := s1.free 2
  have f3 := s1.free 3
  simp at c0 c1 c2 c3
  have hs1 : (⟨b.toArray⟩ : ByteArray).size = b.length := by simp [ByteArray.size]
  have hs2 : (⟨bs.toArray⟩ : ByteArray).size = bs.length := by simp [ByteArray.size]
  cases gone with
  | true =>
    simp at c2
    have S := Lib.hid s
    clear s
    clear s1
    go_enter Try.func53, Try.ntmps53
    go_wp2_with fail
    go_ret
    exact ⟨rfl, S.out⟩
  | false =>
    simp at c2
    by_cases hlen : 65536 < b.length + bs.length
    · have e : tApp (some f) ⟨b, loose, false⟩ bs = (7, some f, ⟨b, loose, false⟩) := by simp [tApp, hlen]
      rw [e]
      have hlen' : (65536 : Int) - (b.length : Int) < (bs.length : Int) := by omega
      have S := Lib.hid s
      clear s
      clear s1 e hlen
      go_enter Try.func53, Try.ntmps53
      go_wp2_with fail
      go_ret
      exact ⟨rfl, S.out⟩
    · have hlen' : (bs.length : Int) ≤ 65536 - (b.length : Int) := by omega
      by_cases hd : fdead (some f) = true
      · have e : tApp (some f) ⟨b, loose, false⟩ bs = (4, some f, ⟨b, loose, false⟩) := by simp [tApp, hlen, hd]
        rw [e]
        have Q := Lib.hid (rspend_no f fb w hd (R := rtp bk (.pointer (some ⟨fb, 0, none⟩)) ⟨b, loose, false⟩ * R) (s.eq (by ac_rfl)))
        clear s s1 e hlen hd
        go_enter Try.func53, Try.ntmps53
        go_wp2_with fail
        refine Q.out.mono ?_
        rintro e w1 ⟨rfl, s1⟩
        have S1 := Lib.hid s1
        clear s1
        clear Q c0 c1 c2 c3 f0 f1 f2 f3
        go_wp2_with fail
        go_ret
        exact ⟨rfl, S1.out.eq (by ac_rfl)⟩
      · have hd' : fdead (some f) = false := by simpa using hd
        have e : tApp (some f) ⟨b, loose, false⟩ bs = (0, fspend (some f), ⟨b ++ bs, loose + bs.length, false⟩) := by simp [tApp, hlen, hd']
        rw [e]
        have Q := Lib.hid (rspend_yes f fb w hd' hl (R := rtp bk (.pointer (some ⟨fb, 0, none⟩)) ⟨b, loose, false⟩ * R) (s.eq (by ac_rfl)))
        have hadd := str_add b bs
        clear s s1 e hd hd'
        go_enter Try.func53, Try.ntmps53
        go_wp2_with fail
        refine Q.out.mono ?_
        rintro e w1 ⟨rfl, s1⟩
        have s2 := rtp_cells (s1.eq (Q := rtp bk (.pointer (some ⟨fb, 0, none⟩)) ⟨b, loose, false⟩ * (rfz fb (if f.bound = true then { f with left := f.left - 1 } else f) * R)) (by ac_rfl))
        clear Q c0 c1 c2 c3 f0 f1 f2 f3
        have c0 := s2.cell 0
        have c1 := s2.cell 1
        have c2 := s2.cell 2
        have c3 := s2.cell 3
        have f0 := s2.free 0
        have f1 := s2.free 1
        have f2 := s2.free 2
        have f3 := s2.free 3
        simp at c0 c1 c2 c3
        have S2 := Lib.hid s2
        clear s2
        clear s1
        go_wp2_with fail
        go_ret
        exact ⟨rfl, (S2.out.set 0 (str (b ++ bs))).set 1 (.int .i64 ((loose : Int) + bs.length))⟩
set_option maxHeartbeats 1000000 in
theorem rsync_calls (f : Fu) (T : Tp) (bk fb : Nat) (w : World) (s : St B w0 w (rtp bk (.pointer (some ⟨fb, 0, none⟩)) T * (rfz fb f * R))) :
    Calls Try.prog 54 #[.pointer (some ⟨bk, 0, none⟩)] w (RetS B w0 (rtp bk (.pointer (some ⟨fb, 0, none⟩)) (tSync (some f) T).2 * (rfz fb f * R)) (.int .i64 (tSync (some f) T).1)) := by
  have s1 := rtp_cells s
  obtain ⟨b, loose, gone⟩ := T
  have c0 := s1.cell 0
  have c1 := s1.cell 1
  have c2 := s1.cell 2
  have c3 := s1.cell 3
  have f0 := s1.free 0
  have f1 := s1.free 1
  have f2 := s1.free 2
  have f3 := s1.free 3
  simp at c0 c1 c2 c3
  cases gone with
  | true =>
    simp at c2
    have S := Lib.hid s
    clear s
    clear s1
    go_enter Try.func54, Try.ntmps54
    go_wp2_with fail
    go_ret
    exact ⟨rfl, S.out⟩
  | false =>
    simp at c2
    have q := rdead_calls f fb w (R := rtp bk (.pointer (some ⟨fb, 0, none⟩)) ⟨b, loose, false⟩ * R) (s.eq (by ac_rfl))
    by_cases hd : fdead (some f) = true
    · rw [hd] at q
      have e : tSync (some f) ⟨b, loose, false⟩ = (4, ⟨b, loose, false⟩) := by simp [tSync, hd]
      rw [e]
      have Q := Lib.hid q
      clear q
      clear s s1 e hd
      go_enter Try.func54, Try.ntmps54
      go_wp2_with fail
      refine Q.out.mono ?_
      rintro e w1 ⟨rfl, s1⟩
      have S1 := Lib.hid s1
      clear s1
      clear Q c0 c1 c2 c3 f0 f1 f2 f3
      go_wp2_with fail
      go_ret
      exact ⟨rfl, S1.out.eq (by ac_rfl)⟩
    · have hd' : fdead (some f) = false := by simpa using hd
      rw [hd'] at q
      have e : tSync (some f) ⟨b, loose, false⟩ = (0, ⟨b, 0, false⟩) := by simp [tSync, hd']
      rw [e]
      have Q := Lib.hid q
      clear q
      clear s s1 e hd hd'
      go_enter Try.func54, Try.ntmps54
      go_wp2_with fail
      refine Q.out.mono ?_
      rintro e w1 ⟨rfl, s1⟩
      have s2 := rtp_cells (s1.eq (Q := rtp bk (.pointer (some ⟨fb, 0, none⟩)) ⟨b, loose, false⟩ * (rfz fb f * R)) (by ac_rfl))
      clear Q c0 c1 c2 c3 f0 f1 f2 f3
      have c0 := s2.cell 0
      have c1 := s2.cell 1
      have c2 := s2.cell 2
      have c3 := s2.cell 3
      have f0 := s2.free 0
      have f1 := s2.free 1
      have f2 := s2.free 2
      have f3 := s2.free 3
      simp at c0 c1 c2 c3
      have S2 := Lib.hid s2
      clear s2
      clear s1
      go_wp2_with fail
      go_ret
      exact ⟨rfl, S2.out.set 1 (.int .i64 0)⟩
set_option maxHeartbeats 1000000 in
theorem rcut_calls (f : Fu) (T : Tp) (n : Int) (bk fb : Nat) (w : World) (hok : T.ok) (hl : f.left ≤ 9223372036854775807) (s : St B w0 w (rtp bk (.pointer (some ⟨fb, 0, none⟩)) T * (rfz fb f * R))) :
    Calls Try.prog 55 #[.pointer (some ⟨bk, 0, none⟩), .int .i64 n] w
      (RetS B w0 (rtp bk (.pointer (some ⟨fb, 0, none⟩)) (tCut (some f) T n).2.2 * (rfz fb ((tCut (some f) T n).2.1.getD f) * R)) (.int .i64 (tCut (some f) T n).1)) := by
  have s1 := rtp_cells s
  obtain ⟨b, loose, gone⟩ := T
  obtain ⟨ok1, ok2⟩ := hok
  simp at ok1 ok2
  have c0 := s1.cell 0
  have c1 := s1.cell 1
  have c2 := s1.cell 2
  have c3 := s1.cell 3
  have f0 := s1.free 0
  have f1 := s1.free 1
  have f2 := s1.free 2
  have f3 := s1.free 3
  simp at c0 c1 c2 c3
  have hs1 : (⟨b.toArray⟩ : ByteArray).size = b.length := by simp [ByteArray.size]
  cases gone with
  | true =>
    simp at c2
    have S := Lib.hid s
    clear s
    clear s1
    go_enter Try.func55, Try.ntmps55
    go_wp2_with fail
    go_ret
    exact ⟨rfl, S.out⟩
  | false =>
    simp at c2
    by_cases hn0 : n < 0
    · have e : tCut (some f) ⟨b, loose, false⟩ n = (1, some f, ⟨b, loose, false⟩) := by simp [tCut, hn0]
      rw [e]
      have S := Lib.hid s
      clear s
      clear s1 e
      go_enter Try.func55, Try.ntmps55
      go_wp2_with fail
      go_ret
      exact ⟨rfl, S.out⟩
    · by_cases hn1 : (b.length : Int) < n
      · have e : tCut (some f) ⟨b, loose, false⟩ n = (1, some f, ⟨b, loose, false⟩) := by simp [tCut, hn1]
        rw [e]
        have S := Lib.hid s
        clear s
        clear s1 e
        go_enter Try.func55, Try.ntmps55
        go_wp2_with fail
        go_ret
        exact ⟨rfl, S.out⟩
      · obtain ⟨m, rfl⟩ : ∃ m : Nat, n = m := ⟨n.toNat, by omega⟩
        have hm : m ≤ b.length := by omega
        by_cases hd : fdead (some f) = true
        · have e : tCut (some f) ⟨b, loose, false⟩ m = (4, some f, ⟨b, loose, false⟩) := by
            simp [tCut, hd]; omega
          rw [e]
          have Q := Lib.hid (rspend_no f fb w hd (R := rtp bk (.pointer (some ⟨fb, 0, none⟩)) ⟨b, loose, false⟩ * R) (s.eq (by ac_rfl)))
          clear s s1 e hd
          go_enter Try.func55, Try.ntmps55
          go_wp2_with fail
          refine Q.out.mono ?_
          rintro e w1 ⟨rfl, s1⟩
          have S1 := Lib.hid s1
          clear s1
          clear Q c0 c1 c2 c3 f0 f1 f2 f3
          go_wp2_with fail
          go_ret
          exact ⟨rfl, S1.out.eq (by ac_rfl)⟩
        · have hd' : fdead (some f) = false := by simpa using hd
          have e : tCut (some f) ⟨b, loose, false⟩ m = (0, fspend (some f), ⟨b.take m, 0, false⟩) := by
            simp [tCut, hd']; omega
          rw [e]
          have Q := Lib.hid (rspend_yes f fb w hd' hl (R := rtp bk (.pointer (some ⟨fb, 0, none⟩)) ⟨b, loose, false⟩ * R) (s.eq (by ac_rfl)))
          have hsl := fun w => run_strTo (P := Try.prog) Try.underlying9 w b .i64 m hm
          clear s s1 e hd hd'
          go_enter Try.func55, Try.ntmps55
          go_wp2_with fail
          refine Q.out.mono ?_
          rintro e w1 ⟨rfl, s1⟩
          have s2 := rtp_cells (s1.eq (Q := rtp bk (.pointer (some ⟨fb, 0, none⟩)) ⟨b, loose, false⟩ * (rfz fb (if f.bound = true then { f with left := f.left - 1 } else f) * R)) (by ac_rfl))
          clear Q c0 c1 c2 c3 f0 f1 f2 f3
          have c0 := s2.cell 0
          have c1 := s2.cell 1
          have c2 := s2.cell 2
          have c3 := s2.cell 3
          have f0 := s2.free 0
          have f1 := s2.free 1
          have f2 := s2.free 2
          have f3 := s2.free 3
          simp at c0 c1 c2 c3
          have S2 := Lib.hid s2
          clear s2
          clear s1
          go_wp2_with fail
          go_ret
          exact ⟨rfl, (S2.out.set 0 (str (b.take m))).set 1 (.int .i64 0)⟩
set_option maxHeartbeats 400000 in
theorem rreplace_calls (T : Tp) (fv : Value) (bk : Nat) (w : World) (s : St B w0 w (rtp bk fv T * R)) :
    Calls Try.prog 33 #[.pointer (some ⟨bk, 0, none⟩)] w (RetS B w0 (rtp bk fv Tp.new * R) (.tuple #[])) := by
  have s1 := rtp_cells s
  have c0 := s1.cell 0
  have c1 := s1.cell 1
  have c2 := s1.cell 2
  have c3 := s1.cell 3
  have f0 := s1.free 0
  have f1 := s1.free 1
  have f2 := s1.free 2
  have f3 := s1.free 3
  simp at c0 c1 c2 c3
  have S1 := Lib.hid s1
  clear s1
  clear s
  go_enter Try.func33, Try.ntmps33
  go_wp2_with fail
  go_end0
  exact ⟨rfl, ((S1.out.set 0 (.string ⟨#[]⟩)).set 1 (.int .i64 0)).set 2 (.bool true)⟩
set_option maxHeartbeats 1000000 in
theorem rcrash_calls (T : Tp) (k : Int) (fv : Value) (bk : Nat) (w : World) (hok : T.ok) (hk : k ≤ 9223372036854775807) (s : St B w0 w (rtp bk fv T * R)) :
    Calls Try.prog 35 #[.pointer (some ⟨bk, 0, none⟩), .int .i64 k] w (RetS B w0 (rtp bk fv (tCrash T k) * R) (.tuple #[])) := by
  have s1 := rtp_cells s
  obtain ⟨b, loose, gone⟩ := T
  obtain ⟨ok1, ok2⟩ := hok
  simp at ok1 ok2
  have c0 := s1.cell 0
  have c1 := s1.cell 1
  have c2 := s1.cell 2
  have c3 := s1.cell 3
  have f0 := s1.free 0
  have f1 := s1.free 1
  have f2 := s1.free 2
  have f3 := s1.free 3
  simp at c0 c1 c2 c3
  have hs1 : (⟨b.toArray⟩ : ByteArray).size = b.length := by simp [ByteArray.size]
  have hm := fun w : World => run_max2 (P := Try.prog) w .i64 #[3, 3] 3 k 0
  have hn := fun w : World => run_min2 (P := Try.prog) w .i64 #[3, 3] 3 (max k 0) loose
  have hN : (b.length : Int) - loose + min (max k 0) loose = ((b.length - loose + min k.toNat loose : Nat) : Int) := by omega
  have hle : b.length - loose + min k.toNat loose ≤ b.length := by omega
  have hT : tCrash ⟨b, loose, gone⟩ k = ⟨b.take (b.length - loose + min k.toNat loose), 0, gone⟩ := rfl
  rw [hT]
  generalize b.length - loose + min k.toNat loose = m at hN hle
  have hsl := fun w => run_strTo (P := Try.prog) Try.underlying9 w b .i64 m hle
  have S1 := Lib.hid s1
  clear s1
  clear s hT
  go_enter Try.func35, Try.ntmps35
  go_wp2_with fail
  refine wp_region_rx (fun j w => St B w0 w (pts bk (.cells (if j = 0 then #[str b, .int .i64 loose, .bool (!gone), fv] else #[str (b.take m), .int .i64 loose, .bool (!gone), fv]) 70 (0, 0)) * R)) [20] mixed (by kernel_rfl) (by kernel_rfl) S1.out.drew ?_
  have cell0 : ∀ (j : Nat) (w' : World), j ≤ 0 → St B w0 w' (pts bk (.cells (if j = 0 then #[str b, .int .i64 loose, .bool (!gone), fv] else #[str (b.take m), .int .i64 loose, .bool (!gone), fv]) 70 (0, 0)) * R) → w'.cell? ⟨bk, 0, none⟩ = some (str b) ∧ w'.cell? ⟨bk, 1, none⟩ = some (.int .i64 loose) := fun j w' hj s => by
    obtain rfl : j = 0 := by omega
    exact ⟨s.cell 0, s.cell 1⟩
  refine RXl.exact (.pointer (some ⟨bk, 0, none⟩)) rfl rfl rfl rfl rfl (fun _ _ _ _ _ => rfl) ?_
  refine RXl.exact (.pointer (some ⟨bk, 0, none⟩)) rfl rfl rfl rfl rfl (fun _ _ _ _ _ => rfl) ?_
  refine RXl.exact (.pointer (some ⟨bk, 0, none⟩)) rfl rfl rfl rfl rfl (fun j τ w' hj hJ => by simp [rho, upd, Spec.val, execOp, go_sem]) ?_
  refine RXl.exact (.pointer (some ⟨bk, 0, none⟩)) rfl rfl rfl rfl rfl (fun j τ w' hj hJ => by simp [rho, upd, Spec.val, execOp, go_sem]) ?_
  refine RXl.exactB 0 20 rfl (by kernel_rfl) (str b) rfl rfl rfl rfl rfl (fun j τ w' hj hJ => by have c := (cell0 j w' hj hJ).1; simp [rho, upd, Spec.val, execOp, go_sem, c]) ?_
  refine RXl.exact (.pointer (some ⟨bk, 0, none⟩)) rfl rfl rfl rfl rfl (fun _ _ _ _ _ => rfl) ?_
  refine RXl.exact (.pointer (some ⟨bk, 0, none⟩)) rfl rfl rfl rfl rfl (fun j τ w' hj hJ => by simp [rho, upd, Spec.val, execOp, go_sem]) ?_
  refine RXl.exact (.pointer (some ⟨bk, 0, none⟩)) rfl rfl rfl rfl rfl (fun j τ w' hj hJ => by simp [rho, upd, Spec.val, execOp, go_sem]) ?_
  refine RXl.exactB 0 20 rfl (by kernel_rfl) (str b) rfl rfl rfl rfl rfl (fun j τ w' hj hJ => by have c := (cell0 j w' hj hJ).1; simp [rho, upd, Spec.val, execOp, go_sem, c]) ?_
  refine RXl.exact (.int .i64 b.length) rfl rfl rfl rfl rfl (fun j τ w' hj hJ => by simp [rho, upd, Spec.val, execOp, go_sem]) ?_
  refine RXl.exact (.pointer (some ⟨bk, 0, none⟩)) rfl rfl rfl rfl rfl (fun _ _ _ _ _ => rfl) ?_
  refine RXl.exact (.pointer (some ⟨bk, 0, none⟩)) rfl rfl rfl rfl rfl (fun j τ w' hj hJ => by simp [rho, upd, Spec.val, execOp, go_sem]) ?_
  refine RXl.exact (.pointer (some ⟨bk, 1, none⟩)) rfl rfl rfl rfl rfl (fun j τ w' hj hJ => by simp [rho, upd, Spec.val, execOp, go_sem]) ?_
  refine RXl.exactB 0 20 rfl (by kernel_rfl) (.int .i64 loose) rfl rfl rfl rfl rfl (fun j τ w' hj hJ => by have c := (cell0 j w' hj hJ).2; simp [rho, upd, Spec.val, execOp, go_sem, c]) ?_
  refine RXl.exact (.int .i64 (b.length - loose)) rfl rfl rfl rfl rfl (fun j τ w' hj hJ => by simp [rho, upd, Spec.val, execOp, go_sem]; rw [IntKind.wrap_i64]; omega) ?_
  refine RXl.exact (.int .i64 (min (max k 0) ↑loose)) rfl rfl rfl rfl rfl (fun _ _ _ _ _ => rfl) ?_
  refine RXl.exact (.int .i64 m) rfl rfl rfl rfl rfl (fun j τ w' hj hJ => by simp [rho, upd, Spec.val, execOp, go_sem]; rw [hN, IntKind.wrap_i64]; omega) ?_
  refine RXl.exact (str (b.take m)) rfl rfl rfl rfl rfl (fun j τ w' hj hJ => exec_slice rfl (hsl w')) ?_
  refine RXl.exact (.pointer (some ⟨bk, 0, none⟩)) rfl rfl rfl rfl rfl (fun j τ w' hj hJ => by simp [rho, upd, Spec.val, execOp, go_sem]) ?_
  refine RXl.exact (.pointer (some ⟨bk, 0, none⟩)) rfl rfl rfl rfl rfl (fun j τ w' hj hJ => by simp [rho, upd, Spec.val, execOp, go_sem]) ?_
  refine RXl.effj 0 rfl rfl rfl rfl rfl rfl (fun w' hJ => ⟨_, exec_store rfl rfl rfl rfl (by kernel_rfl) (St.cell hJ 0) (St.free hJ 0), St.set hJ 0 (str (b.take m))⟩) ?_
  refine RXl.nilx _ (Agr.upd _ _ (Agr.upd _ _ (Agr.upd _ _ (Agr.upd _ _ (Agr.upd _ _ (Agr.upd _ _ (Agr.upd _ _ (Agr.upd _ _ (Agr.upd _ _ (Agr.upd _ _ (Agr.upd _ _ (Agr.upd _ _ (Agr.upd _ _ (Agr.upd _ _ (Agr.upd _ _ (Agr.upd _ _ (Agr.upd _ _ (Agr.upd _ _ (Agr.upd _ _ (Agr.upd _ _ (Agr.base _))))))))))))))))))))) fun w2 hJ => ?_
  obtain ⟨_, hJ⟩ := hJ
  simp only [Act.put, List.setIfInBounds_toArray, List.set_cons_succ, List.set_cons_zero]
  have s2 : St B w0 w2 (pts bk (.cells #[str (b.take m), .int .i64 loose, .bool (!gone), fv] 70 (0, 0)) * R) := hJ
  clear cell0 c0 c1 c2 c3 f0 f1 f2 f3 hsl
  have c0 := s2.cell 0
  have c1 := s2.cell 1
  have c2 := s2.cell 2
  have c3 := s2.cell 3
  have f0 := s2.free 0
  have f1 := s2.free 1
  have f2 := s2.free 2
  have f3 := s2.free 3
  simp at c0 c1 c2 c3
  have S2 := Lib.hid s2
  clear s2
  clear hJ
  go_wp2_with fail
  go_end0
  exact ⟨rfl, S2.out.set 1 (.int .i64 0)⟩
end
end Go.Proofs.Ytkkkncchinejmaa.TapR
