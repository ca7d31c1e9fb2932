/- The document's trio, walked: Append. No condition. -/
import Derived.Test.YtkkkncchinejmaaTrV4
set_option linter.unusedSimpArgs false
set_option linter.unusedVariables false
namespace Go.Proofs.Ytkkkncchinejmaa.TrV
open Go Go.RowKit Go.Proofs.Ytkkkncchinejmaa Go.Proofs.Ytkkkncchinejmaa.Sp Go.Proofs.Ytkkkncchinejmaa.Reg Go.Proofs.Ytkkkncchinejmaa.SlW Go.Proofs.Ytkkkncchinejmaa.Fus Go.Proofs.Ytkkkncchinejmaa.TrM Go.Proofs.Ytkkkncchinejmaa.TapW Go.Proofs.Ytkkkncchinejmaa.TapR Go.Proofs.Ytkkkncchinejmaa.TrW Go.Proofs.Ytkkkncchinejmaa.Str
/-- The document's trio, its tapes and their Fuse. -/
def Hr (fb b p0 p1 p2 n : Nat) (Ts : List Tp) (F : Fu) (R : HP) : HP := rtro b p0 p1 p2 n * (rtps (.pointer (some ⟨fb, 0, none⟩)) [p0, p1, p2] Ts * (rfz fb F * R))
/-- What holds of its tapes and its Fuse. -/
structure Rok (Ts : List Tp) (F : Fu) : Prop where
  len : Ts.length = 3
  ok : ∀ i, (Ts.getD i Tp.new).ok
  left : F.left ≤ 9223372036854775807
section
variable {B : Nat} {w0 w : World} {R : HP} {fb b p0 p1 p2 n : Nat} {Ts : List Tp} {F : Fu}
theorem hr_t (s : St B w0 w (Hr fb b p0 p1 p2 n Ts F R)) : St B w0 w (rtps (.pointer (some ⟨fb, 0, none⟩)) [p0, p1, p2] Ts * (rfz fb F * (rtro b p0 p1 p2 n * R))) := s.eq (by unfold Hr; ac_rfl)
theorem hr_back (s : St B w0 w (rtps (.pointer (some ⟨fb, 0, none⟩)) [p0, p1, p2] Ts * (rfz fb F * (rtro b p0 p1 p2 n * R)))) : St B w0 w (Hr fb b p0 p1 p2 n Ts F R) := s.eq (by unfold Hr; ac_rfl)
theorem hr_p (s : St B w0 w (Hr fb b p0 p1 p2 n Ts F R)) (k : Nat) (hk : k < 3) : w.cell? ⟨b, k, none⟩ = some (pp ([p0, p1, p2].getD k 0)) := by
  have s1 : St B w0 w (rtro b p0 p1 p2 n * _) := s
  obtain rfl | rfl | rfl : k = 0 ∨ k = 1 ∨ k = 2 := by omega
  · exact St.cell s1 0
  · exact St.cell s1 1
  · exact St.cell s1 2
theorem hr_n (s : St B w0 w (Hr fb b p0 p1 p2 n Ts F R)) : w.cell? ⟨b, 3, none⟩ = some (.int .i64 n) ∧ w.frozen? ⟨b, 3, none⟩ = false := by
  have s1 : St B w0 w (rtro b p0 p1 p2 n * _) := s
  exact ⟨St.cell s1 3, St.free s1 3⟩
theorem hr_set (s : St B w0 w (Hr fb b p0 p1 p2 n Ts F R)) (m : Nat) : St B w0 (w.setCell ⟨b, 3, none⟩ (.int .i64 m)) (Hr fb b p0 p1 p2 m Ts F R) := by
  have s1 : St B w0 w (rtro b p0 p1 p2 n * _) := s
  exact St.set s1 3 (.int .i64 m)
theorem hr_c (h : Ts.length = 3) (s : St B w0 w (Hr fb b p0 p1 p2 n Ts F R)) (k : Nat) (hk : k < 3) : w.cell? ⟨[p0, p1, p2].getD k 0, 0, none⟩ = some (str (Ts.getD k Tp.new).b) ∧ w.cell? ⟨[p0, p1, p2].getD k 0, 2, none⟩ = some (.bool (!(Ts.getD k Tp.new).gone)) := by
  have q := rtps_out (get_p (show k < [p0, p1, p2].length by simpa using hk)) (get_T (show k < Ts.length by omega)) (hr_t s)
  exact ⟨St.cell q 0, St.cell q 2⟩
theorem hr_live (w : World) (h : Ts.length = 3) (s : St B w0 w (Hr fb b p0 p1 p2 n Ts F R)) : Calls Try.prog 52 #[pp b] w (RetS B w0 (Hr fb b p0 p1 p2 n Ts F R) (.int .i64 ((lvi Ts).length : Nat))) := rlive_calls _ b p0 p1 p2 n Ts h w s
theorem hr_app (w : World) (k : Nat) (hk : k < 3) (h : Rok Ts F) (bs : List UInt8) (hn : bs.length ≤ 1000000) (s : St B w0 w (Hr fb b p0 p1 p2 n Ts F R)) :
    Calls Try.prog 53 #[pp ([p0, p1, p2].getD k 0), str bs] w (RetS B w0 (Hr fb b p0 p1 p2 n (Ts.set k (tApp (some F) (Ts.getD k Tp.new) bs).2.2) ((tApp (some F) (Ts.getD k Tp.new) bs).2.1.getD F) R) (.int .i64 (tApp (some F) (Ts.getD k Tp.new) bs).1)) :=
  (rtap_calls fb [p0, p1, p2] Ts k F bs (by omega) h.left (h.ok k) (by simpa using hk) (by rw [h.len]; exact hk) w (hr_t s)).mono fun _ _ ⟨h1, h2⟩ => ⟨h1, hr_back h2⟩
theorem hr_sync (w : World) (k : Nat) (hk : k < 3) (h : Rok Ts F) (s : St B w0 w (Hr fb b p0 p1 p2 n Ts F R)) :
    Calls Try.prog 54 #[pp ([p0, p1, p2].getD k 0)] w (RetS B w0 (Hr fb b p0 p1 p2 n (Ts.set k (tSync (some F) (Ts.getD k Tp.new)).2) F R) (.int .i64 (tSync (some F) (Ts.getD k Tp.new)).1)) :=
  (rtsy_calls fb [p0, p1, p2] Ts k F (by simpa using hk) (by rw [h.len]; exact hk) w (hr_t s)).mono fun _ _ ⟨h1, h2⟩ => ⟨h1, hr_back h2⟩
end
/-! ### plain -/
theorem set_at {Ts : List Tp} {k : Nat} (hk : k < Ts.length) (T : Tp) (i : Nat) : (Ts.set k T).getD i Tp.new = if i = k then T else Ts.getD i Tp.new := by
  simp only [List.getD_eq_getElem?_getD, List.getElem?_set]
  by_cases h : k = i
  · subst h; simp [hk]
  · rw [if_neg h, if_neg (Ne.symm h)]
def fu1 (F : Fu) (G : Option Fu) : Fu := G.getD F
theorem app_some (F : Fu) (T : Tp) (bs : List UInt8) : (tApp (some F) T bs).2.1 = some ((tApp (some F) T bs).2.1.getD F) := by
  unfold tApp; repeat (first | split | rfl)
theorem spend_left {F : Fu} (h : F.left ≤ 9223372036854775807) : ((fspend (some F)).getD F).left ≤ 9223372036854775807 := by
  obtain ⟨l, bd⟩ := F
  cases bd
  · exact h
  · show l - 1 ≤ _
    have : l ≤ _ := h
    omega
theorem app_left {F : Fu} (h : F.left ≤ 9223372036854775807) (T : Tp) (bs : List UInt8) : ((tApp (some F) T bs).2.1.getD F).left ≤ 9223372036854775807 := by
  unfold tApp
  split
  · exact h
  · split
    · exact h
    · split
      · exact h
      · exact spend_left h
theorem app_ok {T : Tp} (h : T.ok) (F : Option Fu) (bs : List UInt8) : (tApp F T bs).2.2.ok := by
  unfold tApp
  split
  · exact h
  · split
    · exact h
    · split
      · exact h
      · obtain ⟨h1, h2⟩ := h
        constructor <;> simp <;> omega
theorem sync_ok {T : Tp} (h : T.ok) (F : Option Fu) : (tSync F T).2.ok := by
  unfold tSync
  split
  · exact h
  · split
    · exact h
    · exact ⟨Nat.zero_le _, h.2⟩
theorem Rok.set {Ts : List Tp} {F G : Fu} (h : Rok Ts F) (k : Nat) (hk : k < 3) {T : Tp} (hT : T.ok) (hG : G.left ≤ 9223372036854775807) : Rok (Ts.set k T) G :=
  ⟨by rw [List.length_set]; exact h.len, fun i => by rw [set_at (by rw [h.len]; exact hk)]; split; exact hT; exact h.ok i, hG⟩
theorem Rok.app {Ts : List Tp} {F : Fu} (h : Rok Ts F) (k : Nat) (hk : k < 3) (bs : List UInt8) : Rok (Ts.set k (tApp (some F) (Ts.getD k Tp.new) bs).2.2) ((tApp (some F) (Ts.getD k Tp.new) bs).2.1.getD F) :=
  h.set k hk (app_ok (h.ok k) _ _) (app_left h.left _ _)
theorem Rok.sync {Ts : List Tp} {F : Fu} (h : Rok Ts F) (k : Nat) (hk : k < 3) : Rok (Ts.set k (tSync (some F) (Ts.getD k Tp.new)).2) F :=
  h.set k hk (sync_ok (h.ok k) _) h.left
theorem app_not5 {F : Option Fu} {T : Tp} {bs : List UInt8} (h : T.gone = false) : bd (tApp F T bs).1 = (tApp F T bs).1 := by
  unfold tApp bd
  rw [if_neg (show ¬ (T.gone = true) by simp [h])]
  split
  · rfl
  · split <;> rfl
theorem sync_not5 {F : Option Fu} {T : Tp} (h : T.gone = false) : bd (tSync F T).1 = (tSync F T).1 := by
  unfold tSync bd
  rw [if_neg (show ¬ (T.gone = true) by simp [h])]
  split <;> rfl
theorem apK_live {F : Option Fu} {Ts Ts0 : List Tp} {k : Nat} {bs : List UInt8} (hk : k < 3) (h0 : (Ts0.getD k Tp.new).gone = false) (h : (Ts.getD k Tp.new).gone = false) :
    apK F Ts (lvf Ts0 k) bs = if (tApp F (Ts.getD k Tp.new) bs).1 = 0 then apK (tApp F (Ts.getD k Tp.new) bs).2.1 (Ts.set k (tApp F (Ts.getD k Tp.new) bs).2.2) (lvf Ts0 (k + 1)) bs
      else ((tApp F (Ts.getD k Tp.new) bs).1, (tApp F (Ts.getD k Tp.new) bs).2.1, Ts.set k (tApp F (Ts.getD k Tp.new) bs).2.2) := by
  rw [lvf_step Ts0 k hk, if_pos h0]
  show (if bd (tApp F (Ts.getD k Tp.new) bs).1 = 0 then _ else (bd (tApp F (Ts.getD k Tp.new) bs).1, _, _)) = _
  rw [app_not5 h]
theorem syK_live {F : Option Fu} {Ts Ts0 : List Tp} {k : Nat} (hk : k < 3) (h0 : (Ts0.getD k Tp.new).gone = false) (h : (Ts.getD k Tp.new).gone = false) :
    syK F Ts (lvf Ts0 k) = if (tSync F (Ts.getD k Tp.new)).1 = 0 then syK F (Ts.set k (tSync F (Ts.getD k Tp.new)).2) (lvf Ts0 (k + 1))
      else ((tSync F (Ts.getD k Tp.new)).1, Ts.set k (tSync F (Ts.getD k Tp.new)).2) := by
  rw [lvf_step Ts0 k hk, if_pos h0]
  show (if bd (tSync F (Ts.getD k Tp.new)).1 = 0 then _ else (bd (tSync F (Ts.getD k Tp.new)).1, _)) = _
  rw [sync_not5 h]
theorem lvf_gone {Ts0 : List Tp} {k : Nat} (hk : k < 3) (h0 : (Ts0.getD k Tp.new).gone = true) : lvf Ts0 k = lvf Ts0 (k + 1) := by
  rw [lvf_step Ts0 k hk, if_neg (by rw [h0]; simp)]
theorem full_succ {Ts : List Tp} {k n : Nat} (h : fullK Ts (lvk Ts k) n = false) (h2 : (Ts.getD k Tp.new).gone = true ∨ (Ts.getD k Tp.new).b.length + n ≤ 65536) : fullK Ts (lvk Ts (k + 1)) n = false := by
  rw [lvk_succ]
  split
  · rename_i hg
    rcases h2 with h2 | h2
    · rw [hg] at h2; cases h2
    · unfold fullK at *
      rw [List.any_append, h, List.any_cons, List.any_nil]
      simpa [← List.getD_eq_getElem?_getD] using h2
  · exact h
theorem full_yes {Ts : List Tp} {k n : Nat} (hk : k < 3) (h1 : (Ts.getD k Tp.new).gone = false) (h2 : 65536 < (Ts.getD k Tp.new).b.length + n) : fullK Ts (lvi Ts) n = true := by
  unfold fullK lvi lvk
  rw [List.any_eq_true]
  exact ⟨k, by rw [List.mem_filter, List.mem_range]; exact ⟨hk, by rw [h1]; rfl⟩, by simpa using h2⟩
/-- What Append does behind the checks. -/
theorem trApp_ap {F : Option Fu} {Ts : List Tp} {n : Nat} {r : List UInt8} (h1 : 1 ≤ r.length) (h2 : r.length ≤ 250) (h3 : 2 ≤ (lvi Ts).length) (h4 : fullK Ts (lvi Ts) (r.length + 1) = false) {e : Int} {F1 : Option Fu} {Ts1 : List Tp} (h5 : apK F Ts (lvi Ts) (jn1 r) = (e, F1, Ts1)) :
    trApp F Ts n r = if e = 0 then (if (syK F1 Ts1 (lvi Ts)).1 = 0 then (0, F1, (syK F1 Ts1 (lvi Ts)).2, n + 1) else ((syK F1 Ts1 (lvi Ts)).1, F1, (syK F1 Ts1 (lvi Ts)).2, n)) else (e, F1, Ts1, n) := by
  unfold trApp
  rw [if_neg (by omega), if_neg (by omega), if_neg (by rw [h4]; simp), h5]
theorem lit1 {P : Program} {B : Nat} {w0 w : World} {R : HP} {t e : TypeId} {ρ : Operand → Value} {o : Oper} {c : UInt8} {y : Operand} (hop : o.op = .buildSlice t 1 #[(0, y)]) (hy : ρ y = bv c) (s : St B w0 w R)
    (hrun : ∀ w, (Instr.buildSlice t 1 #[(0, bv c)]).run P w = .ok (.slice (some ⟨w.heap.size, 0, none⟩) 1 1) (w.alloc (.cells #[bv c] e))) :
    ∃ (a : Nat) (w' : World), (execOp ρ o).run P w = .ok (.value (.slice (some ⟨a, 0, none⟩) 1 1)) w' ∧ St B w0 w' (pts a (.cells #[bv c] e (0, 0)) * R) := by
  refine ⟨w.heap.size, w.alloc (.cells #[bv c] e), ?_, s.alloc _⟩
  have q := hrun w
  simp [execOp, hop, hy, q, Result.andThen]
theorem pts_bs {B : Nat} {w0 w : World} {R : HP} {e : TypeId} {a : Nat} {c : UInt8} (s : St B w0 w (pts a (.cells #[bv c] e (0, 0)) * R)) : BS w (.slice (some ⟨a, 0, none⟩) 1 1) [c] :=
  ⟨_, 1, rfl, Nat.le_refl _, by unfold maxLen; omega, fun h => (by cases h), s.rd 0 1⟩
section
variable {B : Nat} {w0 : World} {R : HP}
set_option maxRecDepth 100000 in
set_option maxHeartbeats 16000000 in
theorem rapp_calls (fb b p0 p1 p2 n : Nat) (Ts : List Tp) (F : Fu) (r : List UInt8) (hok : Rok Ts F) (hn : n ≤ 1000000) (hr : r.length ≤ 1000000) (w : World) (s : St B w0 w (Hr fb b p0 p1 p2 n Ts F R)) :
    Calls Try.prog 32 #[pp b, str r] w (RetS B w0 (Hr fb b p0 p1 p2 (trApp (some F) Ts n r).2.2.2 (trApp (some F) Ts n r).2.2.1 ((trApp (some F) Ts n r).2.1.getD F) R) (.int .i64 (trApp (some F) Ts n r).1)) := by
  have hsz : (⟨r.toArray⟩ : ByteArray).size = r.length := by simp [ByteArray.size]
  by_cases h1 : r.length < 1 ∨ 250 < r.length
  · have e : trApp (some F) Ts n r = (1, some F, Ts, n) := by unfold trApp; rw [if_pos h1]
    rw [e]
    have h1' : (r.length : Int) < 1 ∨ ¬ (r.length : Int) < 1 ∧ (250 : Int) < (r.length : Int) := by omega
    have S := Lib.hid s
    have Hok := Lib.hid hok
    clear s hok
    clear h1 e
    rcases h1' with h | ⟨h, h2⟩
    all_goals
      go_enter Try.func32, Try.ntmps32
      go_wp2_with fail
      go_ret
      exact ⟨rfl, S.out⟩
  · have h1a : ¬ (r.length : Int) < 1 := by omega
    have h1b : (r.length : Int) ≤ 250 := by omega
    have q := hr_live w hok.len s
    by_cases h2 : (lvi Ts).length < 2
    · have e : trApp (some F) Ts n r = (8, some F, Ts, n) := by unfold trApp; rw [if_neg h1, if_pos h2]
      rw [e]
      have h2' : ((lvi Ts).length : Int) < 2 := by omega
      generalize (lvi Ts).length = m at *
      have Q := Lib.hid q
      have Hok := Lib.hid hok
      clear hok
      clear s q h1 h2 e
      go_enter Try.func32, Try.ntmps32
      go_wp2_with fail
      refine Q.out.mono ?_
      rintro e w1 ⟨rfl, s1⟩
      have S1 := Lib.hid s1
      clear s1
      clear Q
      go_wp2_with fail
      go_ret
      exact ⟨rfl, S1.out⟩
    · have h2' : ¬ ((lvi Ts).length : Int) < 2 := by omega
      have HB := Lib.hid (show 1 ≤ r.length ∧ r.length ≤ 250 ∧ 2 ≤ (lvi Ts).length from by omega)
      generalize hm : (lvi Ts).length = m at *
      have Q := Lib.hid q
      have Hok := Lib.hid hok
      have Hm := Lib.hid hm
      clear hok hm
      clear s q h1 h2
      go_enter Try.func32, Try.ntmps32
      go_wp2_with fail
      refine Q.out.mono ?_
      rintro e w1 ⟨rfl, s1⟩
      have elen : Value.int .u8 (r.length : Int) = bv (UInt8.ofNat r.length) := by unfold bv; rw [UInt8.toNat_ofNat', Nat.mod_eq_of_lt (by omega)]
      have s2 := s1.alloc (.cells #[.int .u8 r.length] 5)
      have hbs : BS (w1.alloc (.cells #[.int .u8 r.length] 5)) (.slice (some ⟨w1.heap.size, 0, none⟩) 1 1) [UInt8.ofNat r.length] := by
        have q := s2
        rw [elen] at q
        rw [elen]
        exact pts_bs q
      have hcv := run_str (P := Try.prog) Try.underlying23 Try.underlying5 Try.underlying9 hbs
      have S9 := Lib.hid s2.right
      have htx : (⟨#[UInt8.ofNat r.length]⟩ : ByteArray) ++ ⟨r.toArray⟩ = ⟨(jn1 r).toArray⟩ := txt [UInt8.ofNat r.length] r
      have hjl : (jn1 r).length = r.length + 1 := jn1_len r
      have hjz : (⟨(jn1 r).toArray⟩ : ByteArray).size = r.length + 1 := by simp [ByteArray.size, hjl]
      generalize hJ : jn1 r = br at *
      obtain ⟨nb, hnb⟩ : ∃ nb, r.length + 1 = nb := ⟨_, rfl⟩
      rw [hnb] at hjl hjz
      have HJ := Lib.hid hJ
      have Hjl := Lib.hid hjl
      have Hnb := Lib.hid hnb
      clear hJ hjl hnb
      have hwr : IntKind.u8.wrap (r.length : Int) = (r.length : Int) := by rw [IntKind.wrap_u8]; omega
      clear Q elen s1 s2 hbs
      go_wp2_with fail
      go_loopw [6] (fun i wr => ∃ k : Nat, k ≤ 3 ∧ i = .int .i64 k ∧ fullK Ts (lvk Ts k) nb = false ∧ St B w0 wr (Hr fb b p0 p1 p2 n Ts F R)) (fun i _ => 3 - (intOf i).toNat)
      case atStart => exact ⟨0, Nat.zero_le _, rfl, rfl, S9.out⟩
      case round =>
        obtain ⟨k, hk, rfl, hfk, s1⟩ := hrel
        clear S9
        by_cases hlt : k < 3
        · have hkI : (k : Int) < 3 := by omega
          have c1 := hr_p s1 k hlt
          obtain ⟨c2, c3⟩ := hr_c Hok.out.len s1 k hlt
          have hfs := full_succ (k := k) hfk
          have hbk := (Hok.out.ok k).2
          have hfy := full_yes (Ts := Ts) (n := nb) hlt
          have E7 := Lib.hid (fun (h : fullK Ts (lvi Ts) nb = true) => show trApp (some F) Ts n r = (7, some F, Ts, n) by
            obtain ⟨h1, h2, h3⟩ := HB.out
            have hmm := Hm.out
            unfold trApp; rw [if_neg (by omega), if_neg (by omega), Hnb.out, if_pos h])
          generalize [p0, p1, p2].getD k 0 = pk at *
          generalize Ts.getD k Tp.new = T at *
          obtain ⟨tb, tl, tg⟩ := T
          simp only at hfs hfy c2 c3 hbk
          cases tg with
          | true =>
            have HFS := Lib.hid (hfs (.inl rfl))
            simp at c3
            have S1 := Lib.hid s1
            clear s1 hfs hfy hfk E7
            go_wp2_with fail
            go_roundw
            case rel => exact ⟨k + 1, by omega, by go_num, HFS.out, S1.out⟩
            case measure => simp [intOf]; omega
          | false =>
            simp at c3
            have htz : (⟨tb.toArray⟩ : ByteArray).size = tb.length := by simp [ByteArray.size]
            by_cases hf : 65536 < tb.length + nb
            · have E := Lib.hid (E7.out (hfy rfl hf))
              have hgt : (65536 : Int) - (tb.length : Int) < (nb : Int) := by omega
              have S1 := Lib.hid s1
              clear s1 hfs hfy hfk E7 hf
              go_wp2_with fail
              go_ret
              rw [E.out]
              exact ⟨rfl, S1.out⟩
            · have HFS := Lib.hid (hfs (.inr (by omega)))
              have hgt : (nb : Int) ≤ (65536 : Int) - (tb.length : Int) := by omega
              have S1 := Lib.hid s1
              clear s1 hfs hfy hfk E7 hf
              go_wp2_with fail
              go_roundw
              case rel => exact ⟨k + 1, by omega, by go_num, HFS.out, S1.out⟩
              case measure => simp [intOf]; omega
        · obtain rfl : k = 3 := by omega
          rw [show ((3 : Nat) : Int) = (3 : Int) from rfl]
          have HF3 := Lib.hid (show fullK Ts (lvi Ts) nb = false from hfk)
          have S1 := Lib.hid s1
          clear s1 hfk hlt hk
          go_wp2_with fail
          go_loopw [7] (fun i wr => ∃ (k : Nat) (F' : Fu) (Ts' : List Tp), k ≤ 3 ∧ i = .int .i64 k ∧ Rok Ts' F' ∧ (∀ i, (Ts'.getD i Tp.new).gone = (Ts.getD i Tp.new).gone) ∧ apK (some F) Ts (lvi Ts) br = apK (some F') Ts' (lvf Ts k) br ∧ St B w0 wr (Hr fb b p0 p1 p2 n Ts' F' R)) (fun i _ => 3 - (intOf i).toNat)
          case atStart => exact ⟨0, F, Ts, Nat.zero_le _, rfl, Hok.out, fun _ => rfl, by rw [lvf_zero], S1.out⟩
          case round =>
            obtain ⟨k, F', Ts', hk, rfl, hok', hgn, hap, s1⟩ := hrel
            clear S1
            by_cases hlt : k < 3
            · have hkI : (k : Int) < 3 := by omega
              have c1 := hr_p s1 k hlt
              have c3 := (hr_c hok'.len s1 k hlt).2
              cases hg : (Ts.getD k Tp.new).gone with
              | true =>
                rw [hgn k, hg] at c3
                rw [lvf_gone hlt hg] at hap
                generalize [p0, p1, p2].getD k 0 = pk at *
                simp at c3
                have S1 := Lib.hid s1
                have HR := Lib.hid (And.intro hok' (And.intro hgn hap))
                clear s1 hok' hgn hap hg
                go_wp2_with fail
                go_roundw
                case rel => exact ⟨k + 1, F', Ts', by omega, by go_num, HR.out.1, HR.out.2.1, HR.out.2.2, S1.out⟩
                case measure => simp [intOf]; omega
              | false =>
                rw [hgn k, hg] at c3
                rw [apK_live hlt hg (by rw [hgn k]; exact hg)] at hap
                have q := hr_app _ k hlt hok' br (by have := Hjl.out; have := Hnb.out; omega) s1
                have hr2 := hok'.app k hlt br
                have hg2 := fun i => (set_gone (i := k) (j := i) (app_gone (some F') (Ts'.getD k Tp.new) br)).trans (hgn i)
                have hso := app_some F' (Ts'.getD k Tp.new) br
                generalize [p0, p1, p2].getD k 0 = pk at *
                simp at c3
                generalize tApp (some F') (Ts'.getD k Tp.new) br = W at *
                obtain ⟨e1, F1, T1⟩ := W
                obtain ⟨F2, rfl⟩ : ∃ F2, F1 = some F2 := ⟨_, hso⟩
                simp only [Option.getD_some] at hap q hr2 hg2
                have Q := Lib.hid q
                have HR := Lib.hid (And.intro hr2 hg2)
                clear s1 hok' hgn hg q hr2 hg2 hso
                by_cases he : e1 = 0
                · subst he
                  rw [if_pos rfl] at hap
                  have HAP := Lib.hid hap
                  clear hap
                  go_wp2_with fail
                  refine Q.out.mono ?_
                  rintro e w2 ⟨rfl, s2⟩
                  have S2 := Lib.hid s2
                  clear s2 Q
                  go_wp2_with fail
                  go_roundw
                  case rel => exact ⟨k + 1, F2, _, by omega, by go_num, HR.out.1, HR.out.2, HAP.out, S2.out⟩
                  case measure => simp [intOf]; omega
                · rw [if_neg he] at hap
                  have hne : (e1 != 0) = true := by simpa using he
                  have E := Lib.hid (show trApp (some F) Ts n r = (e1, some F2, Ts'.set k T1, n) by
                    obtain ⟨h1, h2, h3⟩ := HB.out
                    have hmm := Hm.out
                    have h5 : apK (some F) Ts (lvi Ts) (jn1 r) = (e1, some F2, Ts'.set k T1) := by rw [HJ.out]; exact hap
                    rw [trApp_ap h1 h2 (by omega) (by rw [Hnb.out]; exact HF3.out) h5, if_neg he])
                  clear hap he
                  go_wp2_with fail
                  refine Q.out.mono ?_
                  rintro e w2 ⟨rfl, s2⟩
                  have S2 := Lib.hid s2
                  clear s2 Q
                  go_wp2_with fail
                  go_ret
                  rw [E.out]
                  exact ⟨rfl, S2.out⟩
            · obtain rfl : k = 3 := by omega
              rw [show ((3 : Nat) : Int) = (3 : Int) from rfl]
              rw [lvf_three] at hap
              have HAP := Lib.hid (show apK (some F) Ts (lvi Ts) br = (0, some F', Ts') from hap)
              have S1 := Lib.hid s1
              have HR := Lib.hid (And.intro hok' hgn)
              clear s1 hap hok' hgn hlt hk
              go_wp2_with fail
              go_loopw [9] (fun i wr => ∃ (k : Nat) (Ts2 : List Tp), k ≤ 3 ∧ i = .int .i64 k ∧ Rok Ts2 F' ∧ (∀ i, (Ts2.getD i Tp.new).gone = (Ts.getD i Tp.new).gone) ∧ syK (some F') Ts' (lvi Ts) = syK (some F') Ts2 (lvf Ts k) ∧ St B w0 wr (Hr fb b p0 p1 p2 n Ts2 F' R)) (fun i _ => 3 - (intOf i).toNat)
              case atStart => exact ⟨0, Ts', Nat.zero_le _, rfl, HR.out.1, HR.out.2, by rw [lvf_zero], S1.out⟩
              case round =>
                obtain ⟨k, Ts2, hk, rfl, hok', hgn, hap, s1⟩ := hrel
                clear S1 HR
                by_cases hlt : k < 3
                · have hkI : (k : Int) < 3 := by omega
                  have c1 := hr_p s1 k hlt
                  have c3 := (hr_c hok'.len s1 k hlt).2
                  cases hg : (Ts.getD k Tp.new).gone with
                  | true =>
                    rw [hgn k, hg] at c3
                    rw [lvf_gone hlt hg] at hap
                    generalize [p0, p1, p2].getD k 0 = pk at *
                    simp at c3
                    have S1 := Lib.hid s1
                    have HR := Lib.hid (And.intro hok' (And.intro hgn hap))
                    clear s1 hok' hgn hap hg
                    go_wp2_with fail
                    go_roundw
                    case rel => exact ⟨k + 1, Ts2, by omega, by go_num, HR.out.1, HR.out.2.1, HR.out.2.2, S1.out⟩
                    case measure => simp [intOf]; omega
                  | false =>
                    rw [hgn k, hg] at c3
                    rw [syK_live hlt hg (by rw [hgn k]; exact hg)] at hap
                    have q := hr_sync _ k hlt hok' s1
                    have hr2 := hok'.sync k hlt
                    have hg2 := fun i => (set_gone (i := k) (j := i) (sync_gone (some F') (Ts2.getD k Tp.new))).trans (hgn i)
                    generalize [p0, p1, p2].getD k 0 = pk at *
                    simp at c3
                    generalize tSync (some F') (Ts2.getD k Tp.new) = W at *
                    obtain ⟨e1, T1⟩ := W
                    simp only at hap q hr2 hg2
                    have Q := Lib.hid q
                    have HR := Lib.hid (And.intro hr2 hg2)
                    clear s1 hok' hgn hg q hr2 hg2
                    by_cases he : e1 = 0
                    · subst he
                      rw [if_pos rfl] at hap
                      have HSY := Lib.hid hap
                      clear hap
                      go_wp2_with fail
                      refine Q.out.mono ?_
                      rintro e w2 ⟨rfl, s2⟩
                      have S2 := Lib.hid s2
                      clear s2 Q
                      go_wp2_with fail
                      go_roundw
                      case rel => exact ⟨k + 1, _, by omega, by go_num, HR.out.1, HR.out.2, HSY.out, S2.out⟩
                      case measure => simp [intOf]; omega
                    · rw [if_neg he] at hap
                      have hne : (e1 != 0) = true := by simpa using he
                      have E := Lib.hid (show trApp (some F) Ts n r = (e1, some F', Ts2.set k T1, n) by
                        obtain ⟨h1, h2, h3⟩ := HB.out
                        have hmm := Hm.out
                        have h5 : apK (some F) Ts (lvi Ts) (jn1 r) = (0, some F', Ts') := by rw [HJ.out]; exact HAP.out
                        rw [trApp_ap h1 h2 (by omega) (by rw [Hnb.out]; exact HF3.out) h5, if_pos rfl, hap, if_neg he])
                      clear hap he
                      go_wp2_with fail
                      refine Q.out.mono ?_
                      rintro e w2 ⟨rfl, s2⟩
                      have S2 := Lib.hid s2
                      clear s2 Q
                      go_wp2_with fail
                      go_ret
                      rw [E.out]
                      exact ⟨rfl, S2.out⟩
                · obtain rfl : k = 3 := by omega
                  rw [lvf_three] at hap
                  have E := Lib.hid (show trApp (some F) Ts n r = (0, some F', Ts2, n + 1) by
                    obtain ⟨h1, h2, h3⟩ := HB.out
                    have hmm := Hm.out
                    have h5 : apK (some F) Ts (lvi Ts) (jn1 r) = (0, some F', Ts') := by rw [HJ.out]; exact HAP.out
                    have hap : syK (some F') Ts' (lvi Ts) = (0, Ts2) := hap
                    rw [trApp_ap h1 h2 (by omega) (by rw [Hnb.out]; exact HF3.out) h5, if_pos rfl, hap]; rfl)
                  obtain ⟨c1, f1⟩ := hr_n s1
                  have s2 := hr_set s1 (n + 1)
                  rw [show (((n + 1 : Nat) : Int)) = (n : Int) + 1 by omega] at s2
                  have S1 := Lib.hid s2
                  clear s1 s2 hap hok' hgn hlt hk
                  go_wp2_with fail
                  go_ret
                  rw [E.out]
                  exact ⟨rfl, S1.out⟩
end
end Go.Proofs.Ytkkkncchinejmaa.TrV
