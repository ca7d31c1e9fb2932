/- Package trio, walked: Split, alike, joined; bytes.Clone, bytes.Equal, slices.Clone of rows. No condition. -/
import Derived.Test.YtkkkncchinejmaaTapW
import Derived.Test.YtkkkncchinejmaaTrM
import Derived.Test.YtkkkncchinejmaaRws
import Derived.Test.YtkkkncchinejmaaRo
import Derived.Test.YtkkkncchinejmaaRey
namespace Go.Proofs.Ytkkkncchinejmaa.TrW
open Go Go.RowKit Go.Proofs.Ytkkkncchinejmaa Go.Proofs.Ytkkkncchinejmaa.Sp Go.Proofs.Ytkkkncchinejmaa.Reg Go.Proofs.Ytkkkncchinejmaa.SlW Go.Proofs.Ytkkkncchinejmaa.Fus Go.Proofs.Ytkkkncchinejmaa.TrM
open Go.Proofs.Ytkkkncchinejmaa.TapW (Reads reads_arg)
theorem tBB : SlT Try.prog 22 23 1 24 (.slice none 0 0) := ⟨Try.underlying22, info_parts (by kernel_rfl), rfl, by decide⟩
theorem reads_left {B : Nat} {w0 : World} {R : HP} {v : Value} {bs : List UInt8} (X : HP) (h : Reads B w0 R v bs) : Reads B w0 (X * R) v bs := fun _ H s => h _ (H * X) (s.eq (sep_assoc _ _ _).symm)
theorem reads_right {B : Nat} {w0 : World} {R : HP} {v : Value} {bs : List UInt8} (X : HP) (h : Reads B w0 R v bs) : Reads B w0 (R * X) v bs := fun _ H s => h _ (H * X) (s.eq (by ac_rfl))
theorem reads_row {B : Nat} {w0 : World} {e : TypeId} {v : Value} {n : Nat} {bs : List UInt8} : Reads B w0 (row e 1 v n (bvs bs)) v bs := fun _ _ s => (s.eq (sep_comm _ _)).bs
set_option maxHeartbeats 400000 in
theorem equal_calls (v1 v2 : Value) (l1 l2 : List UInt8) (w : World) (h1 : BS w v1 l1) (h2 : BS w v2 l2) :
    Calls Try.prog 45 #[v1, v2] w fun e w' => e = .returned (.bool (decide (l1 = l2))) ∧ w = w' := by
  obtain ⟨a1, c1, rfl, -⟩ := id h1
  obtain ⟨a2, c2, rfl, -⟩ := id h2
  have q1 := run_str (P := Try.prog) Try.underlying23 Try.underlying5 Try.underlying9 h1
  have q2 := run_str (P := Try.prog) Try.underlying23 Try.underlying5 Try.underlying9 h2
  clear h1 h2
  by_cases he : l1 = l2
  · subst he
    go_enter Try.func45, Try.ntmps45
    go_wp2_with fail
    go_ret
    exact ⟨by simp, rfl⟩
  · have hd : decide (l1 = l2) = false := decide_eq_false he
    rw [hd]
    have hne : ¬ ((⟨l1.toArray⟩ : ByteArray) = ⟨l2.toArray⟩) := by
      intro e
      injection e with e
      exact he (by simpa using e)
    clear hd
    have HE := Lib.hid he
    clear he
    go_enter Try.func45, Try.ntmps45
    go_wp2_with fail
    go_ret
    exact ⟨by simp [HE.out], rfl⟩
/-- Bytes in a row of their own. -/
def RetN (B : Nat) (w0 : World) (R : HP) (bs : List UInt8) (e : Ending) (w' : World) : Prop := ∃ a c, e = .returned (.slice a bs.length c) ∧ St B w0 w' (row 5 1 (.slice a bs.length c) bs.length (bvs bs) * R)
set_option maxRecDepth 100000 in
set_option maxHeartbeats 400000 in
theorem bclone_st (a : Option Addr) (c : Nat) (bs : List UInt8) (w : World) (h : BS w (.slice a bs.length c) bs) (hsz : bs.length ≤ 1000000) {B : Nat} {w0 : World} {R : HP} (s : St B w0 w R) :
    Calls Try.prog 39 #[.slice a bs.length c] w (RetN B w0 R bs) := by
  cases a with
  | none =>
    have hn := fun w => Lib.run_eql_slice_nil (P := Try.prog) w 23 5 none bs.length c 0 0 Try.underlying23
    have HB := Lib.hid h
    have S := Lib.hid s
    clear h s
    go_enter Try.func39, Try.ntmps39
    go_wp2_with fail
    go_ret
    have h := HB.out
    have q := h.rd.2.2.2.1 rfl
    have q2 := h.rd.2.1
    have : bs = [] := List.eq_nil_of_length_eq_zero (by omega)
    subst this
    exact ⟨none, 0, rfl, S.out.rowNil _ _⟩
  | some ad =>
    have hn := fun w => Lib.run_eql_slice_nil (P := Try.prog) w 23 5 (some ad) bs.length c 0 0 Try.underlying23
    have HB := Lib.hid (h.alloc (.cells #[] 5))
    have s0 := Lib.hid (s.alloc (.cells #[] 5))
    clear h s
    go_enter Try.func39, Try.ntmps39
    go_wp2_with (at_builtin; go_must (refine wpl_append rfl _ _ rfl tB (s0.out.rowMk (n := 0) (cap := 0) (xs := []) (Nat.le_refl _) (Nat.zero_le _) (by simp) rfl) (some ad) bs.length c (bvs bs) rfl rfl HB.out.rd.2.2.2.2 (fun e => by cases e) (by simp) (bvs_one _) (by unfold maxLen; omega) (by omega) ?_); intro v' w' s2 hv; rw [List.nil_append, Nat.zero_add] at s2; have hx := s2.rowSlice; have S2 := Lib.hid s2; clear s2 hv s0)
    go_ret
    obtain ⟨a9, c9, rfl, -⟩ := hx
    exact ⟨_, _, rfl, S2.out⟩
theorem bclone_stN (a : Option Addr) (n c : Nat) (bs : List UInt8) (w : World) (h : BS w (.slice a n c) bs) (hsz : n ≤ 1000000) {B : Nat} {w0 : World} {R : HP} (s : St B w0 w R) :
    Calls Try.prog 39 #[.slice a n c] w (RetN B w0 R bs) := by
  obtain rfl := h.rd.1
  exact bclone_st a c bs w h hsz s
/-- Rows of bytes of one's own. -/
def ob (v : Value) (vs : List Value) (l : List (List UInt8)) : HP := row 23 1 v l.length vs * rows 5 vs l
/-- What Split gives. -/
def SplP (B : Nat) (w0 : World) (R : HP) (b : List UInt8) (e : Ending) (w' : World) : Prop :=
  ∃ v vs, e = .returned (.tuple #[v, .int .i64 (jn (spl b)).length]) ∧ vs.length = (spl b).length ∧ St B w0 w' (ob v vs (spl b) * R)
section
variable {B : Nat} {w0 : World} {R : HP}
theorem ob_nil {w : World} (s : St B w0 w R) : St B w0 w (ob (.slice none 0 0) [] [] * R) := by
  unfold ob
  show St B w0 w (row 23 1 (.slice none 0 0) 0 [] * emp * R)
  rw [sep_emp]
  exact s.rowNil _ _
theorem ob_snoc {w : World} {v v' : Value} {vs : List Value} {l : List (List UInt8)} {r : List UInt8} (h : vs.length = l.length) (s : St B w0 w (row 23 1 v (l.length + 1) (vs ++ [v']) * (rows 5 vs l * (row 5 1 v' r.length (bvs r) * R)))) :
    St B w0 w (ob v (vs ++ [v']) (l ++ [r]) * R) := by
  unfold ob
  rw [rows_snoc _ _ _ _ _ h, List.length_append]
  exact s.eq (by show _ = row 23 1 v (l.length + 1) (vs ++ [v']) * _ * _; ac_rfl)
theorem ob_bss {w : World} {v : Value} {vs : List Value} {l : List (List UInt8)} (s : St B w0 w (ob v vs l * R)) : BSS w v l := by
  unfold ob at s
  exact (s.eq (sep_assoc _ _ _)).bss rfl
set_option maxRecDepth 100000 in
set_option maxHeartbeats 4000000 in
theorem split_calls (a : Option Addr) (c : Nat) (b : List UInt8) (w : World) (hb : Reads B w0 R (.slice a b.length c) b) (hn : b.length ≤ 1000000) (s : St B w0 w R) :
    Calls Try.prog 10 #[.slice a b.length c] w (SplP B w0 R b) := by
  have HB := Lib.hid hb
  have hlc := (hb w emp (s.eq (emp_sep _).symm)).rd.2.1
  have S := Lib.hid s
  clear s
  clear hb
  go_enter Try.func10, Try.ntmps10
  go_wp2_with fail
  go_loopw [2, 3] (fun v i wr => ∃ (l : List (List UInt8)) (rest : List UInt8) (vs : List Value), b = jn l ++ rest ∧ spl b = l ++ spl rest ∧ i = .int .i64 (jn l).length ∧ l.length ≤ (jn l).length ∧ vs.length = l.length ∧ St B w0 wr (ob v vs l * R)) (fun _ i _ => b.length - (intOf i).toNat)
  case atStart => exact ⟨[], b, [], rfl, rfl, rfl, Nat.le_refl _, rfl, ob_nil S.out⟩
  case round =>
    obtain ⟨l, rest, vs, e1, e2, rfl, hle, hvs, s1⟩ := hrel
    clear S
    have hlen : b.length = (jn l).length + rest.length := by rw [e1, List.length_append]
    have hbs := HB.out wr (ob u2 vs l) s1
    obtain ⟨av, cv, rfl, -⟩ := St.rowSlice (St.eq (Q := row 23 1 u2 l.length vs * (rows 5 vs l * R)) (by unfold ob; ac_rfl) s1)
    generalize hm : (jn l).length = m at *
    cases rest with
    | nil =>
      have hge : ¬ (m : Int) < (b.length : Int) := by simp at hlen; omega
      have E := Lib.hid (And.intro e1 e2)
      have S1 := Lib.hid s1
      have Hm := Lib.hid hm
      have Hvs := Lib.hid hvs
      clear hm hvs
      clear e1 e2 hlen s1 hbs
      go_wp2_with fail
      go_ret2
      obtain ⟨e1, e2⟩ := E.out
      rw [spl_nil, List.append_nil] at e2
      unfold SplP
      rw [e2, Hm.out]
      exact ⟨_, vs, rfl, Hvs.out, S1.out⟩
    | cons x r =>
      simp only [List.length_cons] at hlen
      have hlt : (m : Int) < (b.length : Int) := by omega
      obtain ⟨b0, off, rfl⟩ := hbs.head (by omega)
      have hcell : wr.cell? ⟨b0, off + m, none⟩ = some (.int .u8 (x.toNat : Int)) := by
        have q := hbs.cellAt m (by omega)
        rw [q]
        have : b[m]'(by omega) = x := by
          have e3 : b[m]? = some x := by rw [e1, ← hm]; simp
          simpa [List.getElem?_eq_getElem (show m < b.length by omega)] using e3
        rw [this]
      by_cases h1 : x.toNat = 0 ∨ 250 < x.toNat ∨ r.length < x.toNat
      · have e3 : spl b = l := by rw [e2, spl_bad h1, List.append_nil]
        have E := Lib.hid e3
        have S1 := Lib.hid s1
        have Hm := Lib.hid hm
        have Hvs := Lib.hid hvs
        clear hm hvs
        clear e1 e2 e3 s1 hbs hle
        have hx9 : (x.toNat : Int) ≤ 255 := by have := x.toNat_lt; omega
        have hx8 : (0 : Int) ≤ (x.toNat : Int) := by omega
        have h2 : (x.toNat : Int) < 1 ∨ ¬ (x.toNat : Int) < 1 ∧ (250 : Int) < x.toNat ∨ ¬ (x.toNat : Int) < 1 ∧ ¬ (250 : Int) < x.toNat ∧ (b.length : Int) - m - 1 < x.toNat := by omega
        clear h1 hlen
        generalize x.toNat = y at *
        rcases h2 with h2 | ⟨h2, h3⟩ | ⟨h2, h3, h4⟩
        all_goals
          go_wp2_with fail
          go_ret2
          unfold SplP
          rw [E.out, Hm.out]
          exact ⟨_, vs, rfl, Hvs.out, S1.out⟩
      · have hx1 : ¬ (x.toNat : Int) < 1 := by omega
        have hx2 : ¬ (250 : Int) < x.toNat := by omega
        have hx3 : ¬ (b.length : Int) - m - 1 < x.toNat := by omega
        have hxl : x.toNat ≤ r.length := by omega
        have e3 : spl b = (l ++ [r.take x.toNat]) ++ spl (r.drop x.toNat) := by rw [e2, spl_good h1]; simp
        have hok : okr (r.take x.toNat) := by unfold okr; rw [List.length_take]; omega
        have hlt' : (r.take x.toNat).length = x.toNat := by rw [List.length_take]; omega
        have e4 : b = jn (l ++ [r.take x.toNat]) ++ r.drop x.toNat := by
          rw [jn_append, jn_one, jn1, hlt', e1]
          simp
        have e5 : (b.drop (m + 1)).take x.toNat = r.take x.toNat := by
          have e6 : b = (jn l ++ [x]) ++ r := by rw [e1]; simp
          rw [e6, List.drop_left' (by simp [hm])]
        have hsub := hbs.sub (m + 1) (m + 1 + x.toNat) (by omega) (by omega)
        rw [show m + 1 + x.toNat - (m + 1) = x.toNat by omega, e5] at hsub
        have hsl : ∀ w, (Instr.sliceAt 23 (.slice (some ⟨b0, off, none⟩) b.length c) (some (.int .i64 ((m : Int) + 1))) (some (.int .i64 ((m : Int) + 1 + x.toNat))) none).run Try.prog w = .ok (.slice (subA (some ⟨b0, off, none⟩) c (m + 1) 1) x.toNat (c - (m + 1))) w := fun w => by
          have := run_slice_sl tB w (some ⟨b0, off, none⟩) b.length c (some (.int .i64 ↑(m + 1))) (some (.int .i64 ↑(m + 1 + x.toNat))) (m + 1) (m + 1 + x.toNat) (.inr ⟨_, rfl⟩) (.inr ⟨_, rfl⟩) (by omega) (by omega)
          rw [show m + 1 + x.toNat - (m + 1) = x.toNat by omega] at this
          exact this
        generalize hP : r.take x.toNat = P at *
        generalize hQ : r.drop x.toNat = Q2 at *
        have hjn : (jn (l ++ [P])).length = m + 1 + x.toNat := by rw [jn_append, jn_one, List.length_append, jn1_len, hlt', hm]; omega
        generalize hy : x.toNat = y at *
        have hyl : y ≤ b.length := by omega
        have E := Lib.hid (And.intro e4 (And.intro e3 hjn))
        have Q := Lib.hid (bclone_stN _ y _ P wr hsub (by omega) s1)
        have E6 := Lib.hid hlt'
        have Hm := Lib.hid hm
        have Hvs := Lib.hid hvs
        have Hle := Lib.hid hle
        have Hsl := Lib.hid hsl
        clear hm hvs hle hsl
        clear e1 e2 e3 e4 e5 h1 hok hbs hP hQ hjn hlt' hsub s1 hxl hlen hy
        have hsl := Hsl.out
        go_wp2_with fail
        clear hsl
        refine Q.out.mono ?_
        rintro e w1 ⟨a2, c2, rfl, s2⟩
        have s3 := s2.alloc (.cells #[.slice a2 P.length c2] 23)
        have S3 := Lib.hid (St.eq (Q := row 23 1 (.slice av l.length cv) l.length vs * (pts w1.heap.size (.cells #[.slice a2 P.length c2] 23) * (row 5 1 (.slice a2 P.length c2) P.length (bvs P) * (rows 5 vs l * R)))) (by unfold ob; ac_rfl) s3)
        have hr := Lib.hid (Rd.new w1 #[.slice a2 P.length c2] 23)
        have hln : l.length ≤ 1000000 := by have := Hle.out; omega
        clear s2 s3 Q
        go_wp2_with (at_builtin; go_must (refine wpl_append rfl _ _ rfl tBB S3.out (some ⟨w1.heap.size, 0, none⟩) 1 1 [.slice a2 P.length c2] rfl rfl hr.out (fun e => by cases e) (by simp) (by simp [Value.oneCell']) (by unfold maxLen; omega) (by omega) ?_); intro v5 w5 s5 hv5; have S5 := Lib.hid s5; clear s5 hv5 S3 hr)
        go_roundw
        case rel =>
          obtain ⟨e4, e3, hjn⟩ := E.out
          refine ⟨l ++ [P], Q2, vs ++ [.slice a2 P.length c2], e4, e3, by rw [hjn]; go_num, ?_, by simp [Hvs.out], ?_⟩
          · rw [hjn, List.length_append]
            have := Hle.out
            simp
            omega
          · exact ob_snoc Hvs.out ((St.eq (Q := pts w1.heap.size (.cells #[.slice a2 P.length c2] 23) * (row 23 1 v5 (l.length + 1) (vs ++ [.slice a2 P.length c2]) * (rows 5 vs l * (row 5 1 (.slice a2 P.length c2) P.length (bvs P) * R)))) (by ac_rfl) S5.out).right)
        case measure => simp [intOf]; omega
end
end Go.Proofs.Ytkkkncchinejmaa.TrW
