/- DiskSynced, walked. -/
import Derived.Test.YteikpbangjpilaaDskL1
namespace Go.Proofs.Yteikpbangjpilaa.Reg
open Go Go.RowKit Go.Proofs.Yteikpbangjpilaa Go.Proofs.Yteikpbangjpilaa.Sp
section
variable {P : Program} {ops : Array Oper} {Q : Exit → Act → World → Prop} {a0 : Act} {I : Nat → (Nat → Value) → World → Prop} {effs : List Nat} {E : Sig → Prop} {σ : Sig} {o : Oper} {rest : List Oper} {i : Nat}
/-- A call that turns memory, whose arguments are told by what is said of the slots. -/
theorem RXl.callg (k : Nat) (s : Spec) (hs : s.Free) (f : FuncId) (xs : List Operand) (ats : Array TypeId) (hop : o.op = .call { callee := .value (.func f), args := xs.toArray, argTypes := ats })
    (hi : ops[i]? = some o) (hf : inFrame ops a0.tmps.size o = true) (hw : wantS ops σ o = true) (hke : effs[k]? = some i)
    (hc : ∀ a w, I k (slotsOf a) w → a.tmps.size = a0.tmps.size → Agree ops a0.tmps.size σ o a.eval w → ∃ args, xs.map a.eval = args ∧ (callFunc f args.toArray).run P w = .ok (.enter f args.toArray) w ∧
      Calls P f args.toArray w fun e w' => ∃ v, e = .returned v ∧ s.holds v w' ∧ I (k + 1) (slotsOf (a.put o.dst v)) w')
    (h : RXl P ops Q a0 I effs E rest (i + 1) (upd σ o.dst s)) : RXl P ops Q a0 I effs E (o :: rest) i σ := by
  refine ⟨s, hs, fun a w j hal hI _ hsz hh => ?_, h⟩
  obtain rfl := hal.2.2 k hke
  have him : i ∈ effs := List.mem_of_getElem? hke
  unfold wpOp
  simp only [hi, want_of hw hf hh, if_true]
  refine .inl ?_
  obtain ⟨args, ha, hr, hcl⟩ := hc a w hI hsz (agree_eval hh)
  unfold Oper.wp
  rw [execOp_go (fun _ => rfl) f xs ats hop args ha, hr]
  refine Calls.mono hcl fun e w' he => ?_
  obtain ⟨v, rfl, h1, h2⟩ := he
  exact ⟨v, rfl, h1, fun _ => h2, fun hc => absurd him hc⟩
/-- The frame, but for one slot. -/
def AgrG (d : Nat) (v : Value) (a0 : Act) (σ : Sig) (A : Act) : Prop := A.defers = a0.defers ∧ A.tmps.size = a0.tmps.size ∧ A.tmps.getD d undef = v ∧ ∀ t, t < a0.tmps.size → t ≠ d → σ t = .ex (A.tmps.getD t undef)
theorem AgrG.mk {A : Act} {d : Nat} (s : Spec) (v : Value) (hd : d < a0.tmps.size) (h : Agr a0 σ A) : AgrG d v a0 (upd σ (some d) s) (A.put (some d) v) := by
  obtain ⟨h1, h2, h3⟩ := h
  have hd' : d < A.tmps.size := by rw [h2]; exact hd
  refine ⟨by rw [← h1]; rfl, by rw [← h2]; simp [Act.put], by simp [Act.put, hd'], fun t ht hn => ?_⟩
  have hne : (some d : Option Nat) ≠ some t := fun e => hn (by simpa using e.symm)
  rw [show (A.put (some d) v).tmps.getD t undef = A.tmps.getD t undef from slotsOf_put A (some d) v t hne]
  simp [Reg.upd, hne, h3 t ht]
theorem AgrG.upd {A : Act} {d : Nat} {v : Value} (e : Nat) (u : Value) (hne : e ≠ d) (h : AgrG d v a0 σ A) : AgrG d v a0 (Reg.upd σ (some e) (.ex u)) (A.put (some e) u) := by
  obtain ⟨h1, h2, h3, h4⟩ := h
  refine ⟨by rw [← h1]; rfl, by rw [← h2]; simp [Act.put], ?_, fun t ht hn => ?_⟩
  · rw [show (A.put (some e) u).tmps.getD d undef = A.tmps.getD d undef from slotsOf_put A (some e) u d (fun q => hne (by simpa using q))]
    exact h3
  · by_cases hd : (some e : Option Nat) = some t
    · obtain rfl : e = t := by simpa using hd
      have ht' : e < A.tmps.size := by rw [h2]; exact ht
      simp [Reg.upd, Act.put, ht']
    · rw [show (A.put (some e) u).tmps.getD t undef = A.tmps.getD t undef from slotsOf_put A (some e) u t hd]
      simp [Reg.upd, hd, h4 t ht hn]
theorem RXl.nilg (d : Nat) (A : Value → Act) (hd : d < a0.tmps.size) (hA : ∀ v, AgrG d v a0 σ (A v)) (h : ∀ v w, (σ d).holds v w → (∃ τ, I effs.length τ w) → Q .normal (A v) w) : RXl P ops Q a0 I effs (EndX Q a0 I effs) [] i σ := by
  refine RXl.nil fun a w hI hdf hs hh => ?_
  obtain ⟨h1, h2, h3, h4⟩ := hA (a.tmps.getD d undef)
  have e : a = A (a.tmps.getD d undef) := by
    generalize hB : A (a.tmps.getD d undef) = B at h1 h2 h3 h4
    obtain ⟨tm, df⟩ := a
    obtain ⟨tA, dA⟩ := B
    have e1 : df = dA := hdf.trans h1.symm
    have e2 : tm = tA := by
      apply Array.ext (hs.trans h2.symm)
      intro t g1 g2
      have ht : t < a0.tmps.size := by rw [← hs]; exact g1
      have q2 : tm.getD t undef = tA.getD t undef := by
        by_cases hn : t = d
        · subst hn; exact h3.symm
        · have q := hh t ht
          rw [h4 t ht hn] at q
          exact q
      simpa [Array.getD, g1, g2] using q2
    rw [e1, e2]
  rw [e]
  exact h _ w (hh d hd) ⟨_, hI⟩
end
end Go.Proofs.Yteikpbangjpilaa.Reg
namespace Go.Proofs.Yteikpbangjpilaa.DskL
open Go Go.RowKit Go.Proofs.Yteikpbangjpilaa Go.Proofs.Yteikpbangjpilaa.Sp Go.Proofs.Yteikpbangjpilaa.Reg Go.Proofs.Yteikpbangjpilaa.SlW Go.Proofs.Yteikpbangjpilaa.Fus Go.Proofs.Yteikpbangjpilaa.DskN Go.Proofs.Yteikpbangjpilaa.Rd Go.Proofs.Yteikpbangjpilaa.DskW
def RInt (_w : World) (cs : List Value) (n : Int) : Prop := cs = [.int .i64 n]
open Go.ChangeShapes Go.WideShapes in
theorem open_intE {H : Type} {enc : TypeId × Value → H} {W : World} {base : Nat} {held : Bool} (fuel : Nat) (cs : List Value) (x : DataW H × List MemPlace) (_hl : cs.length = 1)
    (h : DataW.trod enc Try.prog W base (fun _ => true) held fuel 3 cs = some x) : ∃ y, RInt W cs y := by
  obtain ⟨m, e, _⟩ := DataW.trod_int Try.underlying3 h
  exact ⟨m, e⟩
/-- What is told of slots that were written so. -/
def img (v : List Nat) : List (List UInt8) := v.map fun n => if n = 0 then blk0 else full (UInt8.ofNat n)
theorem img_len (v : List Nat) : (img v).length = v.length := by simp [img]
theorem img_set (v : List Nat) (q n : Nat) (hn : 0 < n) : (img v).set q (full (UInt8.ofNat n)) = img (v.set q n) := by
  unfold img
  rw [List.map_set, if_neg (by omega)]
def apS (ps : List (Nat × List UInt8)) (L : List (List UInt8)) : List (List UInt8) := ps.foldl (fun L x => L.set x.1 x.2) L
theorem apS_snoc (ps : List (Nat × List UInt8)) (x : Nat × List UInt8) (L : List (List UInt8)) : apS (ps ++ [x]) L = (apS ps L).set x.1 x.2 := by simp [apS]
theorem lastK_ap (keep : Nat) (pend : List (Nat × List UInt8)) (L : List (List UInt8)) : ∀ k, k ≤ pend.length → lastK keep 0 pend L k = apS (pend.take (min k keep)) L
  | 0, _ => by simp [lastK, apS]
  | k + 1, hk => by
    have hm : pend.getD k (0, []) = pend[k] := by simp [List.getD_eq_getElem?_getD, show k < pend.length by omega]
    unfold lastK
    rw [hm, lastK_ap keep pend L k (by omega)]
    unfold DskW.step
    by_cases h1 : k < keep
    · rw [if_pos h1, Nat.min_eq_left (by omega), Nat.min_eq_left (by omega), List.take_succ_eq_append_getElem (by omega), apS_snoc]
    · rw [if_neg h1, Nat.min_eq_right (by omega), Nat.min_eq_right (by omega)]
      by_cases h2 : k = keep
      · rw [if_pos h2]
        simp only [List.take_zero, List.drop_zero, List.nil_append]
        by_cases h3 : (pend[k]).1 < (apS (pend.take keep) L).length
        · simp [List.getD_eq_getElem?_getD, h3]
        · rw [List.set_eq_of_length_le (by omega)]
      · rw [if_neg h2]
theorem sync_img {pend : List (Nat × List UInt8)} {L : List (List UInt8)} : dSync none ⟨L, pend, false⟩ = (0, ⟨apS pend L, [], false⟩) := by
  show (0, (⟨lastK pend.length 0 pend L pend.length, [], false⟩ : Dk)) = _
  rw [lastK_ap _ _ _ _ (Nat.le_refl _), Nat.min_self, List.take_length]
theorem crash_img {pend : List (Nat × List UInt8)} {L : List (List UInt8)} (keep : Nat) : dCrash ⟨L, pend, false⟩ keep 0 = ⟨apS (pend.take keep) L, [], false⟩ := by
  show (⟨lastK (keep : Int).toNat (min (0 : Int).toNat 96) pend L pend.length, [], false⟩ : Dk) = _
  rw [show (keep : Int).toNat = keep from by omega, show min (0 : Int).toNat 96 = 0 from rfl, lastK_ap _ _ _ _ (Nat.le_refl _)]
  congr 2
  by_cases h : keep ≤ pend.length
  · rw [Nat.min_eq_right h]
  · rw [Nat.min_eq_left (by omega), List.take_of_length_le (Nat.le_refl _), List.take_of_length_le (by omega)]
theorem img_zero : img (List.replicate 8 0) = List.replicate 8 blk0 := by simp [img]
/-- The cells of an array of numbers. -/
def nvs (v : List Nat) : Array Value := (v.map fun n : Nat => Value.int .i64 (n : Int)).toArray
theorem nvs_set (v : List Nat) (q n : Nat) : (nvs v).setIfInBounds q (.int .i64 (n : Int)) = nvs (v.set q n) := by simp [nvs, List.map_set]
theorem nvs_get (v : List Nat) (q : Nat) (h : q < v.length) : (nvs v)[q]? = some (.int .i64 (v[q] : Nat)) := by simp [nvs, h]
/-- One write of a fresh block, as the region holds it. -/
def WR (w0 : World) (db : Nat) (D : Dk) (q : Nat) (bs : List UInt8) (X : HP) (sl : Nat) (j : Nat) (τ : Nat → Value) (w : World) : Prop :=
  match j with
  | 0 => St w0.heap.size w0 w (dk (.pointer (some ⟨db, 0, none⟩)) (.pointer none) D * X)
  | 1 => ∃ g, τ sl = .slice (some ⟨g, 0, none⟩) 96 96 ∧ St w0.heap.size w0 w (row 5 1 (.slice (some ⟨g, 0, none⟩) 96 96) 96 (bvs bs) * (dk (.pointer (some ⟨db, 0, none⟩)) (.pointer none) D * X))
  | _ => St w0.heap.size w0 w (dk (.pointer (some ⟨db, 0, none⟩)) (.pointer none) ⟨D.lasts, D.pend ++ [(q, bs)], D.gone⟩ * X)
theorem WR.st {w0 : World} {db : Nat} {D : Dk} {q : Nat} {bs : List UInt8} {X : HP} {sl : Nat} {j : Nat} {τ : Nat → Value} {w : World} (h : WR w0 db D q bs X sl j τ w) : ∃ H, St w0.heap.size w0 w H := by
  match j, h with
  | 0, h => exact ⟨_, h⟩
  | 1, ⟨_, _, h⟩ => exact ⟨_, h⟩
  | _ + 2, h => exact ⟨_, h⟩
theorem WR.write {w0 : World} {db : Nat} {D : Dk} {q : Nat} {bs : List UInt8} {X : HP} {g : Nat} {w : World} (hf : D.pend.length < 1000000) (hq : q < D.lasts.length) (hb : bs.length = 96) (hg : D.gone = false)
    (s : St w0.heap.size w0 w (row 5 1 (.slice (some ⟨g, 0, none⟩) 96 96) 96 (bvs bs) * (dk (.pointer (some ⟨db, 0, none⟩)) (.pointer none) D * X))) :
    Calls Try.prog 34 #[.pointer (some ⟨db, 0, none⟩), .int .i64 (q : Int), .slice (some ⟨g, 0, none⟩) 96 96] w fun e w' => e = .returned (.int .i64 0) ∧ St w0.heap.size w0 w' (dk (.pointer (some ⟨db, 0, none⟩)) (.pointer none) ⟨D.lasts, D.pend ++ [(q, bs)], D.gone⟩ * X) := by
  refine (write0 D q bs _ _ 96 96 w hf (reads_right _ reads_row) (by omega) (s.eq (sep_left_comm _ _ _))).mono ?_
  rw [dWrite_ok hq hb hg]
  rintro e w' ⟨rfl, s'⟩
  exact ⟨rfl, (s'.eq (sep_left_comm _ _ _)).right⟩
set_option maxRecDepth 100000 in
set_option maxHeartbeats 8000000 in
theorem synced_walk (a1 : Option Addr) (ca1 : Nat) (l : List Int) (a2 : Option Addr) (ca2 : Nat) (more : List Int) (keep0 : Int) (w0 : World) (h1 : Elems RInt 1 w0 (.slice a1 l.length ca1) l) (h2 : Elems RInt 1 w0 (.slice a2 more.length ca2) more) (_w2 : (Lit.int .i64 keep0).wf = true) :
    Calls Try.prog 8 #[.slice a1 l.length ca1, .slice a2 more.length ca2, .int .i64 keep0] w0 fun e w' => e = .returned (.bool true) ∧ Below w0.heap.size w0 w' := by
  have hlm : l.length ≤ 9223372036854775807 := by obtain ⟨_, _, _, g1, g2, _⟩ := h1; unfold maxLen at g2; omega
  have hmm : more.length ≤ 9223372036854775807 := by obtain ⟨_, _, _, g1, g2, _⟩ := h2; unfold maxLen at g2; omega
  have H1 := Lib.hid h1
  have H2 := Lib.hid h2
  clear h1 h2
  go_enter Try.func8, Try.ntmps8
  go_wp2_with fail
  refine (new_calls 8 none _ (St.init w0)).mono ?_
  rintro e w1 ⟨p, rfl, s1⟩
  obtain ⟨db, _, _, _, _, rfl, -⟩ := dk_open s1
  have S1 := Lib.hid s1
  clear s1
  go_wp2_with fail
  have s2 := (S1.out.alloc (.cells #[.int .i64 0, .int .i64 0, .int .i64 0, .int .i64 0, .int .i64 0, .int .i64 0, .int .i64 0, .int .i64 0] 61)).eq (sep_left_comm _ _ _)
  generalize w1.alloc _ = w2 at s2 ⊢
  generalize w1.heap.size = g1 at s2 ⊢
  have S2 := Lib.hid (show St w0.heap.size w0 w2 (dk (.pointer (some ⟨db, 0, none⟩)) (.pointer none) ⟨List.replicate 8 blk0, [], false⟩ * (pts g1 (.cells (nvs (List.replicate 8 0)) 61) * emp)) from s2)
  clear s2 S1
  go_loopw [9] (fun i wr => ∃ (k : Nat) (P : List (Nat × List UInt8)) (v : List Nat), k ≤ l.length ∧ k ≤ 30 ∧ i = .int .i64 k ∧ P.length = k ∧ v.length = 8 ∧ (∀ x ∈ v, x ≤ 200) ∧ apS P (List.replicate 8 blk0) = img v ∧ St w0.heap.size w0 wr (dk (.pointer (some ⟨db, 0, none⟩)) (.pointer none) ⟨List.replicate 8 blk0, P, false⟩ * (pts g1 (.cells (nvs v) 61) * emp))) (fun i _ => 30 - (intOf i).toNat)
  case atStart => exact ⟨0, [], List.replicate 8 0, Nat.zero_le _, Nat.zero_le _, rfl, rfl, rfl, by simp, img_zero.symm, S2.out⟩
  case round =>
    obtain ⟨k, P, v, hk1, hk2, rfl, hP, hv, hvb, himg, s⟩ := hrel
    have S := Lib.hid s
    have HPL := Lib.hid hP
    have HV := Lib.hid hv
    have HVB := Lib.hid hvb
    have HIMG := Lib.hid himg
    clear s hP hv hvb himg S2
    by_cases hlt : k < l.length ∧ k < 30
    · obtain ⟨hlt1, hlt2⟩ := hlt
      obtain ⟨b0, off, cs, rfl, hcs, hr, hcell⟩ := H1.out.arg k hlt1
      generalize l[k] = n at hr
      obtain rfl : cs = [.int .i64 n] := hr
      have HC := Lib.hid (show ∀ (w : World) (H : HP), St w0.heap.size w0 w H → w.cell? ⟨b0, off + k, none⟩ = some (.int .i64 n) from fun w H s => by have c := hcell w H s 0 (by omega); simpa using c)
      have k3 := and_m3 n
      obtain ⟨q, hq, hq8⟩ : ∃ q : Nat, n % 8 = (q : Int) ∧ q < 8 := ⟨(n % 8).toNat, by omega, by omega⟩
      rw [hq] at k3
      clear hcell hcs hq
      have HQ := Lib.hid (show q < (⟨List.replicate 8 blk0, P, false⟩ : Dk).lasts.length from by simpa using hq8)
      have HF := Lib.hid (show (⟨List.replicate 8 blk0, P, false⟩ : Dk).pend.length < 1000000 from by have := HPL.out; show P.length < _; omega)
      go_wp2_with fail
      refine wp_region_rxi (WR w0 db ⟨List.replicate 8 blk0, P, false⟩ q (full (UInt8.ofNat (k + 1))) (pts g1 (.cells (nvs v) 61) * emp) 39) [9, 10] mixed (by kernel_rfl) (by kernel_rfl) ?_ S.out.drew ?_
      · intro j τ τ' w' h hI
        match j, h, hI with
        | 0, _, hI => exact hI
        | 1, h, ⟨g, e, s⟩ => exact ⟨g, (h 0 9 (by omega) rfl 39 rfl).symm.trans e, s⟩
        | _ + 2, _, hI => exact hI
      refine RXl.exact (.pointer (some ⟨db, 0, none⟩)) rfl rfl rfl rfl rfl (fun _ _ _ _ _ => rfl) ?_
      refine RXl.exact (.slice (some ⟨b0, off, none⟩) l.length ca1) rfl rfl rfl rfl rfl (fun _ _ _ _ _ => rfl) ?_
      refine RXl.exact (.int .i64 (k : Int)) rfl rfl rfl rfl rfl (fun _ _ _ _ _ => rfl) ?_
      refine RXl.exact (.pointer (some ⟨b0, off + k, none⟩)) rfl rfl rfl rfl rfl (fun j τ w' hj hI => by simp [rho, upd, Spec.val, execOp, go_sem, hlt1]) ?_
      refine RXl.exact (.int .i64 n) rfl rfl rfl rfl rfl (fun j τ w' hj hI => by obtain ⟨H, s⟩ := hI.st; have c := HC.out _ _ s; simp [rho, upd, Spec.val, execOp, go_sem, c]) ?_
      refine RXl.exact (.int .i64 (q : Int)) rfl rfl rfl rfl rfl (fun j τ w' hj hI => by simp [rho, upd, Spec.val, execOp, go_sem, k3]) ?_
      refine RXl.exact (.int .i64 (k : Int)) rfl rfl rfl rfl rfl (fun _ _ _ _ _ => rfl) ?_
      refine RXl.exact (.int .i64 ((k : Int) + 1)) rfl rfl rfl rfl rfl (fun j τ w' hj hI => by simp [rho, upd, Spec.val, execOp, go_sem]; rw [IntKind.wrap_i64]; omega) ?_
      refine RXl.exact (.int .u8 ((k : Int) + 1)) rfl rfl rfl rfl rfl (fun j τ w' hj hI => by simp [rho, upd, Spec.val, execOp, go_sem]; rw [IntKind.wrap_u8]; omega) ?_
      refine RXl.calle 0 (.so fun v _ => ∃ g, v = .slice (some ⟨g, 0, none⟩) 96 96) (Free.so _) 35 [.int .u8 ((k : Int) + 1)] [.tmp 38] _ rfl rfl rfl rfl rfl rfl (fun _ => rfl) (fun a' w' hI hsz => ?_) ?_
      · have s := show St w0.heap.size w0 w' _ from hI
        have q := full_calls (UInt8.ofNat (k + 1)) w' s
        rw [show bv (UInt8.ofNat (k + 1)) = .int .u8 ((k : Int) + 1) from by show Value.int .u8 (((UInt8.ofNat (k + 1)).toNat : Nat) : Int) = _; rw [UInt8.toNat_ofNat', Nat.mod_eq_of_lt (by omega)]; simp] at q
        refine q.mono ?_
        rintro e w3 ⟨g, rfl, s4⟩
        exact ⟨_, rfl, ⟨g, rfl⟩, g, slotsOf_same _ _ _ (by rw [hsz]; show 39 < 132; decide), s4⟩
      refine RXl.callg 1 (.ex (.int .i64 0)) (Free.ex _) 34 [.tmp 30, .tmp 35, .tmp 39] _ rfl rfl rfl rfl rfl (fun a' w' hI hsz hag => ?_) ?_
      · obtain ⟨g, e39, s⟩ := hI
        have e39' : a'.eval (.tmp 39) = .slice (some ⟨g, 0, none⟩) 96 96 := e39
        have e30 := hag.ex 30 (.pointer (some ⟨db, 0, none⟩)) rfl rfl rfl
        have e35 := hag.ex 35 (.int .i64 (q : Int)) rfl rfl rfl
        refine ⟨[.pointer (some ⟨db, 0, none⟩), .int .i64 (q : Int), .slice (some ⟨g, 0, none⟩) 96 96], ?_, rfl, ?_⟩
        · generalize a'.eval = ρ at e30 e35 e39' ⊢
          simp [e30, e35, e39']
        refine (WR.write HF.out HQ.out (full_len _) rfl s).mono ?_
        rintro e w3 ⟨rfl, s4⟩
        exact ⟨_, rfl, rfl, s4⟩
      refine RXl.exact (.bool false) rfl rfl rfl rfl rfl (fun j τ w' hj hI => by simp [rho, upd, Spec.val, execOp, go_sem]) ?_
      refine RXl.nilg 39 _ (by show 39 < 132; decide) (fun v => AgrG.upd _ _ (by decide) (AgrG.upd _ _ (by decide) (AgrG.mk _ v (by show 39 < 132; decide) (Agr.upd _ _ (Agr.upd _ _ (Agr.upd _ _ (Agr.upd _ _ (Agr.upd _ _ (Agr.upd _ _ (Agr.upd _ _ (Agr.upd _ _ (Agr.upd _ _ (Agr.base _))))))))))))) fun u39 w8 hu hJ => ?_
      obtain ⟨_, hJ⟩ := hJ
      simp only [Act.put, List.setIfInBounds_toArray, List.set_cons_succ, List.set_cons_zero]
      have s8 := (show St w0.heap.size w0 w8 (dk (.pointer (some ⟨db, 0, none⟩)) (.pointer none) ⟨List.replicate 8 blk0, P ++ [(q, full (UInt8.ofNat (k + 1)))], false⟩ * (pts g1 (.cells (nvs v) 61) * emp)) from hJ).eq (sep_left_comm _ _ _)
      have hqv : q < v.length := by rw [HV.out]; exact hq8
      have c1 := (s8.cell q).trans (nvs_get v q hqv)
      have f1 := s8.free q
      have c0 := HC.out _ _ s8
      have HST := Lib.hid (show St w0.heap.size w0 (w8.setCell ⟨g1, q, none⟩ (.int .i64 ((k : Int) + 1))) (pts g1 (.cells (nvs (v.set q (k + 1))) 61) * (dk (.pointer (some ⟨db, 0, none⟩)) (.pointer none) ⟨List.replicate 8 blk0, P ++ [(q, full (UInt8.ofNat (k + 1)))], false⟩ * emp)) from by rw [← nvs_set]; exact s8.set q _)
      clear s8 hJ hu S
      generalize v[q] = vq at c1
      go_wp2_with fail
      go_roundw
      case rel =>
        refine ⟨k + 1, P ++ [(q, full (UInt8.ofNat (k + 1)))], v.set q (k + 1), by omega, by omega, by go_num, by simp [HPL.out], by simp [HV.out], ?_, ?_, HST.out.eq (sep_left_comm _ _ _)⟩
        · intro x hx
          rcases List.mem_or_eq_of_mem_set hx with h | h
          · exact HVB.out x h
          · omega
        · rw [apS_snoc, HIMG.out, img_set _ _ _ (by omega)]
      case measure => simp [intOf]; omega
    · have hend : l.length ≤ k ∨ k < l.length ∧ 30 ≤ k := by omega
      clear hlt
      rcases hend with hend | ⟨hend, hend2⟩
      · skip
        have hmn := fun w : World => run_min2 (P := Try.prog) w .i64 #[3, 3] 3 (more.length : Int) 30
        obtain ⟨N, hn, hn1, hn2⟩ : ∃ N : Nat, min (more.length : Int) 30 = (N : Int) ∧ N ≤ more.length ∧ N ≤ 30 := ⟨min more.length 30, by omega, by omega, by omega⟩
        rw [hn] at hmn
        have k4 := and_m8 keep0
        obtain ⟨y, hy, hy2⟩ : ∃ y : Nat, keep0 % 256 = (y : Int) ∧ y < 256 := ⟨(keep0 % 256).toNat, by omega, by omega⟩
        rw [hy] at k4
        obtain ⟨kp, hkp, hkp2⟩ : ∃ kp : Nat, (y : Int) % ((N : Int) + 1) = (kp : Int) ∧ kp ≤ N := ⟨y % (N + 1), by simp, by have := Nat.mod_lt y (show 0 < N + 1 by omega); omega⟩
        clear hn hy
        have HKP := Lib.hid hkp
        clear hkp
        go_wp2_with fail
        refine (sync0 ⟨List.replicate 8 blk0, P, false⟩ _ _ S.out).mono ?_
        rw [sync_img, HIMG.out]
        rintro e w3 ⟨rfl, s⟩
        obtain ⟨v0, v1, v2, v3, v4, v5, v6, v7, rfl⟩ : ∃ v0 v1 v2 v3 v4 v5 v6 v7, v = [v0, v1, v2, v3, v4, v5, v6, v7] := by
          match v, HV.out with
          | [v0, v1, v2, v3, v4, v5, v6, v7], _ => exact ⟨v0, v1, v2, v3, v4, v5, v6, v7, rfl⟩
        have s := s.eq (sep_left_comm _ _ _)
        have s4 : St w0.heap.size w0 w3 (pts g1 (.cells #[.int .i64 (v0 : Int), .int .i64 (v1 : Int), .int .i64 (v2 : Int), .int .i64 (v3 : Int), .int .i64 (v4 : Int), .int .i64 (v5 : Int), .int .i64 (v6 : Int), .int .i64 (v7 : Int)] 61) * (dk (.pointer (some ⟨db, 0, none⟩)) (.pointer none) ⟨img [v0, v1, v2, v3, v4, v5, v6, v7], [], false⟩ * emp)) := s
        have c0 := s4.cell 0
        have c1 := s4.cell 1
        have c2 := s4.cell 2
        have c3 := s4.cell 3
        have c4 := s4.cell 4
        have c5 := s4.cell 5
        have c6 := s4.cell 6
        have c7 := s4.cell 7
        have f0 := s4.free 0
        have f1 := s4.free 1
        have f2 := s4.free 2
        have f3 := s4.free 3
        have f4 := s4.free 4
        have f5 := s4.free 5
        have f6 := s4.free 6
        have f7 := s4.free 7
        simp at c0 c1 c2 c3 c4 c5 c6 c7
        have S4 := Lib.hid s4
        clear s s4 S HPL HIMG
        go_wp2_with fail
        clear c0 c1 c2 c3 c4 c5 c6 c7 f0 f1 f2 f3 f4 f5 f6 f7
        have s5 : St w0.heap.size w0 (w3.alloc (.cells #[.int .i64 (v0 : Int), .int .i64 (v1 : Int), .int .i64 (v2 : Int), .int .i64 (v3 : Int), .int .i64 (v4 : Int), .int .i64 (v5 : Int), .int .i64 (v6 : Int), .int .i64 (v7 : Int)] 61)) (dk (.pointer (some ⟨db, 0, none⟩)) (.pointer none) ⟨img [v0, v1, v2, v3, v4, v5, v6, v7], [], false⟩ * (pts w3.heap.size (.cells (nvs [v0, v1, v2, v3, v4, v5, v6, v7]) 61) * emp)) :=
          ((S4.out.right.alloc (.cells #[.int .i64 (v0 : Int), .int .i64 (v1 : Int), .int .i64 (v2 : Int), .int .i64 (v3 : Int), .int .i64 (v4 : Int), .int .i64 (v5 : Int), .int .i64 (v6 : Int), .int .i64 (v7 : Int)] 61)).eq (sep_left_comm _ _ _))
        generalize w3.alloc _ = w5 at s5 ⊢
        generalize w3.heap.size = g2 at s5 ⊢
        have S5 := Lib.hid s5
        clear s5 S4
        generalize [v0, v1, v2, v3, v4, v5, v6, v7] = v at S5 HVB HV
        rw [HKP.out]
        go_loopw [12] (fun i wr => ∃ (k : Nat) (P : List (Nat × List UInt8)) (u : List Nat), k ≤ N ∧ i = .int .i64 k ∧ P.length = k ∧ u.length = 8 ∧ (∀ x ∈ u, x ≤ 200) ∧ apS (P.take kp) (img v) = img u ∧ St w0.heap.size w0 wr (dk (.pointer (some ⟨db, 0, none⟩)) (.pointer none) ⟨img v, P, false⟩ * (pts g2 (.cells (nvs u) 61) * emp))) (fun i _ => 30 - (intOf i).toNat)
        case atStart => exact ⟨0, [], v, Nat.zero_le _, rfl, rfl, HV.out, HVB.out, by simp [apS], S5.out⟩
        case round =>
          obtain ⟨k, P, u, hk1, rfl, hP, hu, hub, himg, s⟩ := hrel
          have S := Lib.hid s
          have HPL := Lib.hid hP
          have HU := Lib.hid hu
          have HUB := Lib.hid hub
          have HIMG := Lib.hid himg
          clear s hP hu hub himg S5
          by_cases hlt : k < N
          · have hlt1 : k < more.length := by omega
            obtain ⟨b0, off, cs, rfl, hcs, hr, hcell⟩ := H2.out.arg k hlt1
            generalize more[k] = n2 at hr
            obtain rfl : cs = [.int .i64 n2] := hr
            have HC := Lib.hid (show ∀ (w : World) (H : HP), St w0.heap.size w0 w H → w.cell? ⟨b0, off + k, none⟩ = some (.int .i64 n2) from fun w H s => by have c := hcell w H s 0 (by omega); simpa using c)
            have k3 := and_m3 n2
            obtain ⟨q, hq, hq8⟩ : ∃ q : Nat, n2 % 8 = (q : Int) ∧ q < 8 := ⟨(n2 % 8).toNat, by omega, by omega⟩
            rw [hq] at k3
            clear hcell hcs hq
            have HQ := Lib.hid (show q < (⟨img v, P, false⟩ : Dk).lasts.length from by show q < (img v).length; rw [img_len, HV.out]; exact hq8)
            have HF := Lib.hid (show (⟨img v, P, false⟩ : Dk).pend.length < 1000000 from by have := HPL.out; show P.length < _; omega)
            have hqv : q < u.length := by rw [HU.out]; exact hq8
            go_wp2_with fail
            refine wp_region_rxi (WR w0 db ⟨img v, P, false⟩ q (full (UInt8.ofNat (100 + k))) (pts g2 (.cells (nvs u) 61) * emp) 76) [9, 10] mixed (by kernel_rfl) (by kernel_rfl) ?_ S.out.drew ?_
            · intro j τ τ' w' h hI
              match j, h, hI with
              | 0, _, hI => exact hI
              | 1, h, ⟨g, e, s⟩ => exact ⟨g, (h 0 9 (by omega) rfl 76 rfl).symm.trans e, s⟩
              | _ + 2, _, hI => exact hI
            refine RXl.exact (.pointer (some ⟨db, 0, none⟩)) rfl rfl rfl rfl rfl (fun _ _ _ _ _ => rfl) ?_
            refine RXl.exact (.slice (some ⟨b0, off, none⟩) more.length ca2) rfl rfl rfl rfl rfl (fun _ _ _ _ _ => rfl) ?_
            refine RXl.exact (.int .i64 (k : Int)) rfl rfl rfl rfl rfl (fun _ _ _ _ _ => rfl) ?_
            refine RXl.exact (.pointer (some ⟨b0, off + k, none⟩)) rfl rfl rfl rfl rfl (fun j τ w' hj hI => by simp [rho, upd, Spec.val, execOp, go_sem, hlt1]) ?_
            refine RXl.exact (.int .i64 n2) rfl rfl rfl rfl rfl (fun j τ w' hj hI => by obtain ⟨H, s⟩ := hI.st; have c := HC.out _ _ s; simp [rho, upd, Spec.val, execOp, go_sem, c]) ?_
            refine RXl.exact (.int .i64 (q : Int)) rfl rfl rfl rfl rfl (fun j τ w' hj hI => by simp [rho, upd, Spec.val, execOp, go_sem, k3]) ?_
            refine RXl.exact (.int .i64 (k : Int)) rfl rfl rfl rfl rfl (fun _ _ _ _ _ => rfl) ?_
            refine RXl.exact (.int .i64 (100 + (k : Int))) rfl rfl rfl rfl rfl (fun j τ w' hj hI => by simp [rho, upd, Spec.val, execOp, go_sem]; rw [IntKind.wrap_i64]; omega) ?_
            refine RXl.exact (.int .u8 (100 + (k : Int))) rfl rfl rfl rfl rfl (fun j τ w' hj hI => by simp [rho, upd, Spec.val, execOp, go_sem]; rw [IntKind.wrap_u8]; omega) ?_
            refine RXl.calle 0 (.so fun v _ => ∃ g, v = .slice (some ⟨g, 0, none⟩) 96 96) (Free.so _) 35 [.int .u8 (100 + (k : Int))] [.tmp 75] _ rfl rfl rfl rfl rfl rfl (fun _ => rfl) (fun a' w' hI hsz => ?_) ?_
            · have s := show St w0.heap.size w0 w' _ from hI
              have q := full_calls (UInt8.ofNat (100 + k)) w' s
              rw [show bv (UInt8.ofNat (100 + k)) = .int .u8 (100 + (k : Int)) from by show Value.int .u8 (((UInt8.ofNat (100 + k)).toNat : Nat) : Int) = _; rw [UInt8.toNat_ofNat', Nat.mod_eq_of_lt (by omega)]; simp] at q
              refine q.mono ?_
              rintro e w3 ⟨g, rfl, s4⟩
              exact ⟨_, rfl, ⟨g, rfl⟩, g, slotsOf_same _ _ _ (by rw [hsz]; show 76 < 132; decide), s4⟩
            refine RXl.callg 1 (.ex (.int .i64 0)) (Free.ex _) 34 [.tmp 67, .tmp 72, .tmp 76] _ rfl rfl rfl rfl rfl (fun a' w' hI hsz hag => ?_) ?_
            · obtain ⟨g, e39, s⟩ := hI
              have e39' : a'.eval (.tmp 76) = .slice (some ⟨g, 0, none⟩) 96 96 := e39
              have e30 := hag.ex 67 (.pointer (some ⟨db, 0, none⟩)) rfl rfl rfl
              have e35 := hag.ex 72 (.int .i64 (q : Int)) rfl rfl rfl
              refine ⟨[.pointer (some ⟨db, 0, none⟩), .int .i64 (q : Int), .slice (some ⟨g, 0, none⟩) 96 96], ?_, rfl, ?_⟩
              · generalize a'.eval = ρ at e30 e35 e39' ⊢
                simp [e30, e35, e39']
              refine (WR.write HF.out HQ.out (full_len _) rfl s).mono ?_
              rintro e w3 ⟨rfl, s4⟩
              exact ⟨_, rfl, rfl, s4⟩
            refine RXl.exact (.bool false) rfl rfl rfl rfl rfl (fun j τ w' hj hI => by simp [rho, upd, Spec.val, execOp, go_sem]) ?_
            refine RXl.nilg 76 _ (by show 76 < 132; decide) (fun v => AgrG.upd _ _ (by decide) (AgrG.upd _ _ (by decide) (AgrG.mk _ v (by show 76 < 132; decide) (Agr.upd _ _ (Agr.upd _ _ (Agr.upd _ _ (Agr.upd _ _ (Agr.upd _ _ (Agr.upd _ _ (Agr.upd _ _ (Agr.upd _ _ (Agr.upd _ _ (Agr.base _))))))))))))) fun u39 w8 hu hJ => ?_
            obtain ⟨_, hJ⟩ := hJ
            simp only [Act.put, List.setIfInBounds_toArray, List.set_cons_succ, List.set_cons_zero]
            have s8 := (show St w0.heap.size w0 w8 (dk (.pointer (some ⟨db, 0, none⟩)) (.pointer none) ⟨img v, P ++ [(q, full (UInt8.ofNat (100 + k)))], false⟩ * (pts g2 (.cells (nvs u) 61) * emp)) from hJ).eq (sep_left_comm _ _ _)
            by_cases hkk : k < kp
            · have c1 := (s8.cell q).trans (nvs_get u q hqv)
              have f1 := s8.free q
              have c0 := HC.out _ _ s8
              have HST := Lib.hid (show St w0.heap.size w0 (w8.setCell ⟨g2, q, none⟩ (.int .i64 (100 + (k : Int)))) (pts g2 (.cells (nvs (u.set q (100 + k))) 61) * (dk (.pointer (some ⟨db, 0, none⟩)) (.pointer none) ⟨img v, P ++ [(q, full (UInt8.ofNat (100 + k)))], false⟩ * emp)) from by rw [← nvs_set]; exact s8.set q _)
              clear s8 hJ hu S
              generalize u[q] = vq at c1
              go_wp2_with fail
              go_roundw
              case rel =>
                refine ⟨k + 1, P ++ [(q, full (UInt8.ofNat (100 + k)))], u.set q (100 + k), by omega, by go_num, by simp [HPL.out], by simp [HU.out], ?_, ?_, HST.out.eq (sep_left_comm _ _ _)⟩
                · intro x hx
                  rcases List.mem_or_eq_of_mem_set hx with h | h
                  · exact HUB.out x h
                  · omega
                · have hi := HIMG.out
                  rw [List.take_of_length_le (by rw [HPL.out]; omega)] at hi
                  rw [List.take_of_length_le (by simp [HPL.out]; omega), apS_snoc, hi, img_set _ _ _ (by omega)]
              case measure => simp [intOf]; omega
            · have hkk2 : (kp : Int) ≤ (k : Int) := by omega
              have S8 := Lib.hid s8
              clear s8 hJ hu S
              go_wp2_with fail
              go_roundw
              case rel =>
                refine ⟨k + 1, P ++ [(q, full (UInt8.ofNat (100 + k)))], u, by omega, by go_num, by simp [HPL.out], HU.out, HUB.out, ?_, S8.out.eq (sep_left_comm _ _ _)⟩
                rw [List.take_append_of_le_length (by rw [HPL.out]; omega), HIMG.out]
              case measure => simp [intOf]; omega
          · obtain rfl : k = N := by omega
            clear hlt
            go_wp2_with fail
            refine (pending_calls ⟨img v, P, false⟩ _ _ _ S.out).mono ?_
            rw [show (⟨img v, P, false⟩ : Dk).pend.length = k from HPL.out]
            rintro e w6 ⟨rfl, s⟩
            have S6 := Lib.hid s
            clear s S
            go_wp2_with fail
            refine (crash_calls ⟨img v, P, false⟩ _ _ kp 0 (by omega) (by omega) _ S6.out).mono ?_
            rw [crash_img, HIMG.out]
            rintro e w7 ⟨rfl, s⟩
            have S7 := Lib.hid s
            clear s S6 HIMG HPL
            go_wp2_with fail
            go_loopw [13] (fun i wr => ∃ k : Nat, k ≤ 8 ∧ i = .int .i64 k ∧ St w0.heap.size w0 wr (dk (.pointer (some ⟨db, 0, none⟩)) (.pointer none) ⟨img u, [], false⟩ * (pts g2 (.cells (nvs u) 61) * emp))) (fun i _ => 8 - (intOf i).toNat)
            case atStart => exact ⟨0, Nat.zero_le _, rfl, S7.out⟩
            case round =>
              obtain ⟨k, hk8, rfl, s⟩ := hrel
              have S := Lib.hid s
              clear s S7
              by_cases hlt : k < 8
              · skip
                have hk8 : k < u.length := by rw [HU.out]; exact hlt
                have hbd : u[k] ≤ 200 := HUB.out _ (List.getElem_mem hk8)
                have c1 := fun (w : World) (Y : HP) (s : St w0.heap.size w0 w (pts g2 (.cells (nvs u) 61) * Y)) => (s.cell k).trans (nvs_get u k hk8)
                have e1 : dErr ⟨img u, [], false⟩ k = 0 := by unfold dErr; rw [if_pos ⟨by omega, by show (k : Int) < ((img u).length : Nat); rw [img_len]; omega⟩]; rfl
                have e2 : dRead ⟨img u, [], false⟩ k = if u[k] = 0 then blk0 else full (UInt8.ofNat u[k]) := by
                  unfold dRead
                  rw [if_pos ⟨⟨by omega, by show (k : Int) < ((img u).length : Nat); rw [img_len]; omega⟩, rfl⟩]
                  show (img u).getD k [] = _
                  simp [List.getD_eq_getElem?_getD, img, hk8]
                generalize u[k] = m at c1 hbd e2
                clear hk8
                go_wp2_with fail
                refine (blank_calls _).mono ?_
                rintro e w9 ⟨rfl, h9⟩
                have s9 := S.out.keep h9
                have c0 := c1 _ _ (s9.eq (sep_left_comm _ _ _))
                have E1 := Lib.hid e1
                clear h9 S c1 e1
                by_cases hm : m = 0
                · subst hm
                  have E2 := Lib.hid (e2.trans (if_pos rfl))
                  have S9 := Lib.hid s9
                  clear e2 s9
                  go_wp2_with fail
                  refine (read_calls ⟨img u, [], false⟩ _ _ k _ S9.out).mono ?_
                  rintro e w11 ⟨a11, c11, he, s⟩
                  rw [E1.out, E2.out] at he
                  rw [E2.out] at s
                  rw [blk0_len] at he s
                  subst he
                  have hcv := run_str (P := Try.prog) Try.underlying25 Try.underlying5 Try.underlying9 s.bs
                  have S10 := Lib.hid s.right
                  clear s S9
                  go_wp2_with fail
                  go_roundw
                  case rel => exact ⟨k + 1, by omega, by go_num, S10.out⟩
                  case measure => simp [intOf]; omega
                · have hm' : (0 : Int) < (m : Int) := by omega
                  have E2 := Lib.hid (e2.trans (if_neg hm))
                  have HF := Lib.hid (full_calls (UInt8.ofNat m) _ s9)
                  rw [show bv (UInt8.ofNat m) = .int .u8 (m : Int) from by show Value.int .u8 (((UInt8.ofNat m).toNat : Nat) : Int) = _; rw [UInt8.toNat_ofNat', Nat.mod_eq_of_lt (by omega)]] at HF
                  clear e2 s9 hm
                  go_wp2_with fail
                  refine HF.out.mono ?_
                  rintro e w10 ⟨g10, rfl, s⟩
                  have hcw := run_str (P := Try.prog) Try.underlying25 Try.underlying5 Try.underlying9 s.bs
                  have S9 := Lib.hid s.right
                  clear HF s c0
                  go_wp2_with fail
                  clear hcw
                  refine (read_calls ⟨img u, [], false⟩ _ _ k _ S9.out).mono ?_
                  rintro e w11 ⟨a11, c11, he, s⟩
                  rw [E1.out, E2.out] at he
                  rw [E2.out] at s
                  rw [full_len] at he s
                  subst he
                  have hcv := run_str (P := Try.prog) Try.underlying25 Try.underlying5 Try.underlying9 s.bs
                  have S10 := Lib.hid s.right
                  clear s S9
                  go_wp2_with fail
                  go_roundw
                  case rel => exact ⟨k + 1, by omega, by go_num, S10.out⟩
                  case measure => simp [intOf]; omega
              · obtain rfl : k = 8 := by omega
                clear hlt
                go_wp2_with fail
                refine (pending_calls ⟨img u, [], false⟩ _ _ _ S.out).mono ?_
                rintro e w12 ⟨he, s⟩
                obtain rfl : e = .returned (.int .i64 0) := he
                have S12 := Lib.hid s
                clear s S
                go_wp2_with fail
                refine (awake_calls _).mono ?_
                rintro e w13 ⟨rfl, h13⟩
                have HB := Lib.hid (S12.out.keep h13).below
                clear h13 S12
                go_wp2_with fail
                go_ret
                exact ⟨rfl, HB.out⟩
      · skip
        have hmn := fun w : World => run_min2 (P := Try.prog) w .i64 #[3, 3] 3 (more.length : Int) 30
        obtain ⟨N, hn, hn1, hn2⟩ : ∃ N : Nat, min (more.length : Int) 30 = (N : Int) ∧ N ≤ more.length ∧ N ≤ 30 := ⟨min more.length 30, by omega, by omega, by omega⟩
        rw [hn] at hmn
        have k4 := and_m8 keep0
        obtain ⟨y, hy, hy2⟩ : ∃ y : Nat, keep0 % 256 = (y : Int) ∧ y < 256 := ⟨(keep0 % 256).toNat, by omega, by omega⟩
        rw [hy] at k4
        obtain ⟨kp, hkp, hkp2⟩ : ∃ kp : Nat, (y : Int) % ((N : Int) + 1) = (kp : Int) ∧ kp ≤ N := ⟨y % (N + 1), by simp, by have := Nat.mod_lt y (show 0 < N + 1 by omega); omega⟩
        clear hn hy
        have HKP := Lib.hid hkp
        clear hkp
        go_wp2_with fail
        refine (sync0 ⟨List.replicate 8 blk0, P, false⟩ _ _ S.out).mono ?_
        rw [sync_img, HIMG.out]
        rintro e w3 ⟨rfl, s⟩
        obtain ⟨v0, v1, v2, v3, v4, v5, v6, v7, rfl⟩ : ∃ v0 v1 v2 v3 v4 v5 v6 v7, v = [v0, v1, v2, v3, v4, v5, v6, v7] := by
          match v, HV.out with
          | [v0, v1, v2, v3, v4, v5, v6, v7], _ => exact ⟨v0, v1, v2, v3, v4, v5, v6, v7, rfl⟩
        have s := s.eq (sep_left_comm _ _ _)
        have s4 : St w0.heap.size w0 w3 (pts g1 (.cells #[.int .i64 (v0 : Int), .int .i64 (v1 : Int), .int .i64 (v2 : Int), .int .i64 (v3 : Int), .int .i64 (v4 : Int), .int .i64 (v5 : Int), .int .i64 (v6 : Int), .int .i64 (v7 : Int)] 61) * (dk (.pointer (some ⟨db, 0, none⟩)) (.pointer none) ⟨img [v0, v1, v2, v3, v4, v5, v6, v7], [], false⟩ * emp)) := s
        have c0 := s4.cell 0
        have c1 := s4.cell 1
        have c2 := s4.cell 2
        have c3 := s4.cell 3
        have c4 := s4.cell 4
        have c5 := s4.cell 5
        have c6 := s4.cell 6
        have c7 := s4.cell 7
        have f0 := s4.free 0
        have f1 := s4.free 1
        have f2 := s4.free 2
        have f3 := s4.free 3
        have f4 := s4.free 4
        have f5 := s4.free 5
        have f6 := s4.free 6
        have f7 := s4.free 7
        simp at c0 c1 c2 c3 c4 c5 c6 c7
        have S4 := Lib.hid s4
        clear s s4 S HPL HIMG
        go_wp2_with fail
        clear c0 c1 c2 c3 c4 c5 c6 c7 f0 f1 f2 f3 f4 f5 f6 f7
        have s5 : St w0.heap.size w0 (w3.alloc (.cells #[.int .i64 (v0 : Int), .int .i64 (v1 : Int), .int .i64 (v2 : Int), .int .i64 (v3 : Int), .int .i64 (v4 : Int), .int .i64 (v5 : Int), .int .i64 (v6 : Int), .int .i64 (v7 : Int)] 61)) (dk (.pointer (some ⟨db, 0, none⟩)) (.pointer none) ⟨img [v0, v1, v2, v3, v4, v5, v6, v7], [], false⟩ * (pts w3.heap.size (.cells (nvs [v0, v1, v2, v3, v4, v5, v6, v7]) 61) * emp)) :=
          ((S4.out.right.alloc (.cells #[.int .i64 (v0 : Int), .int .i64 (v1 : Int), .int .i64 (v2 : Int), .int .i64 (v3 : Int), .int .i64 (v4 : Int), .int .i64 (v5 : Int), .int .i64 (v6 : Int), .int .i64 (v7 : Int)] 61)).eq (sep_left_comm _ _ _))
        generalize w3.alloc _ = w5 at s5 ⊢
        generalize w3.heap.size = g2 at s5 ⊢
        have S5 := Lib.hid s5
        clear s5 S4
        generalize [v0, v1, v2, v3, v4, v5, v6, v7] = v at S5 HVB HV
        rw [HKP.out]
        go_loopw [12] (fun i wr => ∃ (k : Nat) (P : List (Nat × List UInt8)) (u : List Nat), k ≤ N ∧ i = .int .i64 k ∧ P.length = k ∧ u.length = 8 ∧ (∀ x ∈ u, x ≤ 200) ∧ apS (P.take kp) (img v) = img u ∧ St w0.heap.size w0 wr (dk (.pointer (some ⟨db, 0, none⟩)) (.pointer none) ⟨img v, P, false⟩ * (pts g2 (.cells (nvs u) 61) * emp))) (fun i _ => 30 - (intOf i).toNat)
        case atStart => exact ⟨0, [], v, Nat.zero_le _, rfl, rfl, HV.out, HVB.out, by simp [apS], S5.out⟩
        case round =>
          obtain ⟨k, P, u, hk1, rfl, hP, hu, hub, himg, s⟩ := hrel
          have S := Lib.hid s
          have HPL := Lib.hid hP
          have HU := Lib.hid hu
          have HUB := Lib.hid hub
          have HIMG := Lib.hid himg
          clear s hP hu hub himg S5
          by_cases hlt : k < N
          · have hlt1 : k < more.length := by omega
            obtain ⟨b0, off, cs, rfl, hcs, hr, hcell⟩ := H2.out.arg k hlt1
            generalize more[k] = n2 at hr
            obtain rfl : cs = [.int .i64 n2] := hr
            have HC := Lib.hid (show ∀ (w : World) (H : HP), St w0.heap.size w0 w H → w.cell? ⟨b0, off + k, none⟩ = some (.int .i64 n2) from fun w H s => by have c := hcell w H s 0 (by omega); simpa using c)
            have k3 := and_m3 n2
            obtain ⟨q, hq, hq8⟩ : ∃ q : Nat, n2 % 8 = (q : Int) ∧ q < 8 := ⟨(n2 % 8).toNat, by omega, by omega⟩
            rw [hq] at k3
            clear hcell hcs hq
            have HQ := Lib.hid (show q < (⟨img v, P, false⟩ : Dk).lasts.length from by show q < (img v).length; rw [img_len, HV.out]; exact hq8)
            have HF := Lib.hid (show (⟨img v, P, false⟩ : Dk).pend.length < 1000000 from by have := HPL.out; show P.length < _; omega)
            have hqv : q < u.length := by rw [HU.out]; exact hq8
            go_wp2_with fail
            refine wp_region_rxi (WR w0 db ⟨img v, P, false⟩ q (full (UInt8.ofNat (100 + k))) (pts g2 (.cells (nvs u) 61) * emp) 76) [9, 10] mixed (by kernel_rfl) (by kernel_rfl) ?_ S.out.drew ?_
            · intro j τ τ' w' h hI
              match j, h, hI with
              | 0, _, hI => exact hI
              | 1, h, ⟨g, e, s⟩ => exact ⟨g, (h 0 9 (by omega) rfl 76 rfl).symm.trans e, s⟩
              | _ + 2, _, hI => exact hI
            refine RXl.exact (.pointer (some ⟨db, 0, none⟩)) rfl rfl rfl rfl rfl (fun _ _ _ _ _ => rfl) ?_
            refine RXl.exact (.slice (some ⟨b0, off, none⟩) more.length ca2) rfl rfl rfl rfl rfl (fun _ _ _ _ _ => rfl) ?_
            refine RXl.exact (.int .i64 (k : Int)) rfl rfl rfl rfl rfl (fun _ _ _ _ _ => rfl) ?_
            refine RXl.exact (.pointer (some ⟨b0, off + k, none⟩)) rfl rfl rfl rfl rfl (fun j τ w' hj hI => by simp [rho, upd, Spec.val, execOp, go_sem, hlt1]) ?_
            refine RXl.exact (.int .i64 n2) rfl rfl rfl rfl rfl (fun j τ w' hj hI => by obtain ⟨H, s⟩ := hI.st; have c := HC.out _ _ s; simp [rho, upd, Spec.val, execOp, go_sem, c]) ?_
            refine RXl.exact (.int .i64 (q : Int)) rfl rfl rfl rfl rfl (fun j τ w' hj hI => by simp [rho, upd, Spec.val, execOp, go_sem, k3]) ?_
            refine RXl.exact (.int .i64 (k : Int)) rfl rfl rfl rfl rfl (fun _ _ _ _ _ => rfl) ?_
            refine RXl.exact (.int .i64 (100 + (k : Int))) rfl rfl rfl rfl rfl (fun j τ w' hj hI => by simp [rho, upd, Spec.val, execOp, go_sem]; rw [IntKind.wrap_i64]; omega) ?_
            refine RXl.exact (.int .u8 (100 + (k : Int))) rfl rfl rfl rfl rfl (fun j τ w' hj hI => by simp [rho, upd, Spec.val, execOp, go_sem]; rw [IntKind.wrap_u8]; omega) ?_
            refine RXl.calle 0 (.so fun v _ => ∃ g, v = .slice (some ⟨g, 0, none⟩) 96 96) (Free.so _) 35 [.int .u8 (100 + (k : Int))] [.tmp 75] _ rfl rfl rfl rfl rfl rfl (fun _ => rfl) (fun a' w' hI hsz => ?_) ?_
            · have s := show St w0.heap.size w0 w' _ from hI
              have q := full_calls (UInt8.ofNat (100 + k)) w' s
              rw [show bv (UInt8.ofNat (100 + k)) = .int .u8 (100 + (k : Int)) from by show Value.int .u8 (((UInt8.ofNat (100 + k)).toNat : Nat) : Int) = _; rw [UInt8.toNat_ofNat', Nat.mod_eq_of_lt (by omega)]; simp] at q
              refine q.mono ?_
              rintro e w3 ⟨g, rfl, s4⟩
              exact ⟨_, rfl, ⟨g, rfl⟩, g, slotsOf_same _ _ _ (by rw [hsz]; show 76 < 132; decide), s4⟩
            refine RXl.callg 1 (.ex (.int .i64 0)) (Free.ex _) 34 [.tmp 67, .tmp 72, .tmp 76] _ rfl rfl rfl rfl rfl (fun a' w' hI hsz hag => ?_) ?_
            · obtain ⟨g, e39, s⟩ := hI
              have e39' : a'.eval (.tmp 76) = .slice (some ⟨g, 0, none⟩) 96 96 := e39
              have e30 := hag.ex 67 (.pointer (some ⟨db, 0, none⟩)) rfl rfl rfl
              have e35 := hag.ex 72 (.int .i64 (q : Int)) rfl rfl rfl
              refine ⟨[.pointer (some ⟨db, 0, none⟩), .int .i64 (q : Int), .slice (some ⟨g, 0, none⟩) 96 96], ?_, rfl, ?_⟩
              · generalize a'.eval = ρ at e30 e35 e39' ⊢
                simp [e30, e35, e39']
              refine (WR.write HF.out HQ.out (full_len _) rfl s).mono ?_
              rintro e w3 ⟨rfl, s4⟩
              exact ⟨_, rfl, rfl, s4⟩
            refine RXl.exact (.bool false) rfl rfl rfl rfl rfl (fun j τ w' hj hI => by simp [rho, upd, Spec.val, execOp, go_sem]) ?_
            refine RXl.nilg 76 _ (by show 76 < 132; decide) (fun v => AgrG.upd _ _ (by decide) (AgrG.upd _ _ (by decide) (AgrG.mk _ v (by show 76 < 132; decide) (Agr.upd _ _ (Agr.upd _ _ (Agr.upd _ _ (Agr.upd _ _ (Agr.upd _ _ (Agr.upd _ _ (Agr.upd _ _ (Agr.upd _ _ (Agr.upd _ _ (Agr.base _))))))))))))) fun u39 w8 hu hJ => ?_
            obtain ⟨_, hJ⟩ := hJ
            simp only [Act.put, List.setIfInBounds_toArray, List.set_cons_succ, List.set_cons_zero]
            have s8 := (show St w0.heap.size w0 w8 (dk (.pointer (some ⟨db, 0, none⟩)) (.pointer none) ⟨img v, P ++ [(q, full (UInt8.ofNat (100 + k)))], false⟩ * (pts g2 (.cells (nvs u) 61) * emp)) from hJ).eq (sep_left_comm _ _ _)
            by_cases hkk : k < kp
            · have c1 := (s8.cell q).trans (nvs_get u q hqv)
              have f1 := s8.free q
              have c0 := HC.out _ _ s8
              have HST := Lib.hid (show St w0.heap.size w0 (w8.setCell ⟨g2, q, none⟩ (.int .i64 (100 + (k : Int)))) (pts g2 (.cells (nvs (u.set q (100 + k))) 61) * (dk (.pointer (some ⟨db, 0, none⟩)) (.pointer none) ⟨img v, P ++ [(q, full (UInt8.ofNat (100 + k)))], false⟩ * emp)) from by rw [← nvs_set]; exact s8.set q _)
              clear s8 hJ hu S
              generalize u[q] = vq at c1
              go_wp2_with fail
              go_roundw
              case rel =>
                refine ⟨k + 1, P ++ [(q, full (UInt8.ofNat (100 + k)))], u.set q (100 + k), by omega, by go_num, by simp [HPL.out], by simp [HU.out], ?_, ?_, HST.out.eq (sep_left_comm _ _ _)⟩
                · intro x hx
                  rcases List.mem_or_eq_of_mem_set hx with h | h
                  · exact HUB.out x h
                  · omega
                · have hi := HIMG.out
                  rw [List.take_of_length_le (by rw [HPL.out]; omega)] at hi
                  rw [List.take_of_length_le (by simp [HPL.out]; omega), apS_snoc, hi, img_set _ _ _ (by omega)]
              case measure => simp [intOf]; omega
            · have hkk2 : (kp : Int) ≤ (k : Int) := by omega
              have S8 := Lib.hid s8
              clear s8 hJ hu S
              go_wp2_with fail
              go_roundw
              case rel =>
                refine ⟨k + 1, P ++ [(q, full (UInt8.ofNat (100 + k)))], u, by omega, by go_num, by simp [HPL.out], HU.out, HUB.out, ?_, S8.out.eq (sep_left_comm _ _ _)⟩
                rw [List.take_append_of_le_length (by rw [HPL.out]; omega), HIMG.out]
              case measure => simp [intOf]; omega
          · obtain rfl : k = N := by omega
            clear hlt
            go_wp2_with fail
            refine (pending_calls ⟨img v, P, false⟩ _ _ _ S.out).mono ?_
            rw [show (⟨img v, P, false⟩ : Dk).pend.length = k from HPL.out]
            rintro e w6 ⟨rfl, s⟩
            have S6 := Lib.hid s
            clear s S
            go_wp2_with fail
            refine (crash_calls ⟨img v, P, false⟩ _ _ kp 0 (by omega) (by omega) _ S6.out).mono ?_
            rw [crash_img, HIMG.out]
            rintro e w7 ⟨rfl, s⟩
            have S7 := Lib.hid s
            clear s S6 HIMG HPL
            go_wp2_with fail
            go_loopw [13] (fun i wr => ∃ k : Nat, k ≤ 8 ∧ i = .int .i64 k ∧ St w0.heap.size w0 wr (dk (.pointer (some ⟨db, 0, none⟩)) (.pointer none) ⟨img u, [], false⟩ * (pts g2 (.cells (nvs u) 61) * emp))) (fun i _ => 8 - (intOf i).toNat)
            case atStart => exact ⟨0, Nat.zero_le _, rfl, S7.out⟩
            case round =>
              obtain ⟨k, hk8, rfl, s⟩ := hrel
              have S := Lib.hid s
              clear s S7
              by_cases hlt : k < 8
              · skip
                have hk8 : k < u.length := by rw [HU.out]; exact hlt
                have hbd : u[k] ≤ 200 := HUB.out _ (List.getElem_mem hk8)
                have c1 := fun (w : World) (Y : HP) (s : St w0.heap.size w0 w (pts g2 (.cells (nvs u) 61) * Y)) => (s.cell k).trans (nvs_get u k hk8)
                have e1 : dErr ⟨img u, [], false⟩ k = 0 := by unfold dErr; rw [if_pos ⟨by omega, by show (k : Int) < ((img u).length : Nat); rw [img_len]; omega⟩]; rfl
                have e2 : dRead ⟨img u, [], false⟩ k = if u[k] = 0 then blk0 else full (UInt8.ofNat u[k]) := by
                  unfold dRead
                  rw [if_pos ⟨⟨by omega, by show (k : Int) < ((img u).length : Nat); rw [img_len]; omega⟩, rfl⟩]
                  show (img u).getD k [] = _
                  simp [List.getD_eq_getElem?_getD, img, hk8]
                generalize u[k] = m at c1 hbd e2
                clear hk8
                go_wp2_with fail
                refine (blank_calls _).mono ?_
                rintro e w9 ⟨rfl, h9⟩
                have s9 := S.out.keep h9
                have c0 := c1 _ _ (s9.eq (sep_left_comm _ _ _))
                have E1 := Lib.hid e1
                clear h9 S c1 e1
                by_cases hm : m = 0
                · subst hm
                  have E2 := Lib.hid (e2.trans (if_pos rfl))
                  have S9 := Lib.hid s9
                  clear e2 s9
                  go_wp2_with fail
                  refine (read_calls ⟨img u, [], false⟩ _ _ k _ S9.out).mono ?_
                  rintro e w11 ⟨a11, c11, he, s⟩
                  rw [E1.out, E2.out] at he
                  rw [E2.out] at s
                  rw [blk0_len] at he s
                  subst he
                  have hcv := run_str (P := Try.prog) Try.underlying25 Try.underlying5 Try.underlying9 s.bs
                  have S10 := Lib.hid s.right
                  clear s S9
                  go_wp2_with fail
                  go_roundw
                  case rel => exact ⟨k + 1, by omega, by go_num, S10.out⟩
                  case measure => simp [intOf]; omega
                · have hm' : (0 : Int) < (m : Int) := by omega
                  have E2 := Lib.hid (e2.trans (if_neg hm))
                  have HF := Lib.hid (full_calls (UInt8.ofNat m) _ s9)
                  rw [show bv (UInt8.ofNat m) = .int .u8 (m : Int) from by show Value.int .u8 (((UInt8.ofNat m).toNat : Nat) : Int) = _; rw [UInt8.toNat_ofNat', Nat.mod_eq_of_lt (by omega)]] at HF
                  clear e2 s9 hm
                  go_wp2_with fail
                  refine HF.out.mono ?_
                  rintro e w10 ⟨g10, rfl, s⟩
                  have hcw := run_str (P := Try.prog) Try.underlying25 Try.underlying5 Try.underlying9 s.bs
                  have S9 := Lib.hid s.right
                  clear HF s c0
                  go_wp2_with fail
                  clear hcw
                  refine (read_calls ⟨img u, [], false⟩ _ _ k _ S9.out).mono ?_
                  rintro e w11 ⟨a11, c11, he, s⟩
                  rw [E1.out, E2.out] at he
                  rw [E2.out] at s
                  rw [full_len] at he s
                  subst he
                  have hcv := run_str (P := Try.prog) Try.underlying25 Try.underlying5 Try.underlying9 s.bs
                  have S10 := Lib.hid s.right
                  clear s S9
                  go_wp2_with fail
                  go_roundw
                  case rel => exact ⟨k + 1, by omega, by go_num, S10.out⟩
                  case measure => simp [intOf]; omega
              · obtain rfl : k = 8 := by omega
                clear hlt
                go_wp2_with fail
                refine (pending_calls ⟨img u, [], false⟩ _ _ _ S.out).mono ?_
                rintro e w12 ⟨he, s⟩
                obtain rfl : e = .returned (.int .i64 0) := he
                have S12 := Lib.hid s
                clear s S
                go_wp2_with fail
                refine (awake_calls _).mono ?_
                rintro e w13 ⟨rfl, h13⟩
                have HB := Lib.hid (S12.out.keep h13).below
                clear h13 S12
                go_wp2_with fail
                go_ret
                exact ⟨rfl, HB.out⟩
end Go.Proofs.Yteikpbangjpilaa.DskL
