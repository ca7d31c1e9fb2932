/- The walk of frame.Put. -/
import Derived.Test.YtmilfilmhkpjoaaFrmW
namespace Go.Proofs.Ytmilfilmhkpjoaa.FrmW
open Go Go.RowKit Go.Proofs.Ytmilfilmhkpjoaa Go.Proofs.Ytmilfilmhkpjoaa.Sp Go.Proofs.Ytmilfilmhkpjoaa.Reg Go.Proofs.Ytmilfilmhkpjoaa.CrcW Go.Proofs.Ytmilfilmhkpjoaa.CrcM

/-- copy of bytes into an owned row. -/
theorem run_copy_st {P : Program} {dT sT ty e : TypeId} (hu : P.underlying dT = some (.slice e)) (hs : (P.info? e).map (·.size) = some 1) {B : Nat} {w0 w : World} {R : HP} {g n c : Nat} {l : List UInt8}
    (s : St B w0 w (row e 1 (.slice (some ⟨g, 0, none⟩) n c) n (bvs l) * R)) (o dLen dCap : Nat) (a : Option Addr) (c2 : Nat) (data : List UInt8) (hd : BS w (.slice a data.length c2) data) (h1 : data.length ≤ dLen) (h2 : o + data.length ≤ l.length) :
    ∃ w', (Builtin.copy_ #[dT, sT] ty #[.slice (some ⟨g, o, none⟩) dLen dCap, .slice a data.length c2]).run P w = .ok (goInt data.length) w' ∧
      St B w0 w' (row e 1 (.slice (some ⟨g, 0, none⟩) n c) n (bvs (l.take o ++ data ++ l.drop (o + data.length))) * R) := by
  by_cases h0 : data.length = 0
  · have e0 : data = [] := List.eq_nil_of_length_eq_zero h0
    subst e0
    refine ⟨w, run_copy_none w dT sT ty e _ _ _ _ _ _ hu hs (by simp), ?_⟩
    simpa using s
  · obtain ⟨-, -, -, -, hr⟩ := hd.rd
    obtain ⟨b, off, rfl, hc⟩ := hr.at (by intro e; have := congrArg List.length e; rw [List.length_map, List.length_nil] at this; exact h0 this)
    obtain ⟨hl, h⟩ := s.rowOpen
    rcases h with ⟨e1, _, _⟩ | ⟨g', c', cur, e1, h3, h4, h5, h6, t⟩
    · cases e1
    cases e1
    rw [Nat.mul_one] at h5 h6
    have hn : n = l.length := by simpa using hl.symm
    have hrun := run_copy_row (P := P) w dT sT ty e g o dLen dCap ⟨b, off, none⟩ data.length c2 cur e (bvs data) hu hs t.block (by rw [List.length_map]; exact (Nat.min_eq_left h1).symm) (fun j v hj => by
      rw [Addr.add_lit]
      exact hc j v hj) (by rw [List.length_map]; omega) (bvs_one _)
    rw [List.length_map] at hrun
    refine ⟨_, hrun, ?_⟩
    refine (t.setRow _).rowMk h3 h4 (by simp; omega) ?_
    rw [Nat.mul_one]
    obtain ⟨D, hD⟩ : ∃ D, cur.toList = bvs l ++ D := ⟨cur.toList.drop n, by rw [← h6]; exact (List.take_append_drop _ _).symm⟩
    show List.take n (cur.toList.take o ++ bvs data ++ cur.toList.drop (o + data.length)) = _
    have q1 : (bvs l ++ D).take o = (bvs l).take o := List.take_append_of_le_length (by rw [List.length_map]; omega)
    have q2 : (bvs l ++ D).drop (o + data.length) = (bvs l).drop (o + data.length) ++ D := List.drop_append_of_le_length (by rw [List.length_map]; omega)
    rw [hD, q1, q2, ← List.append_assoc, List.take_left' (by simp; omega)]
    simp [bvs, List.map_take, List.map_drop]
/-- The head without its check. -/
def lay1 (id n : Nat) : List UInt8 := num (((List.replicate 96 (0 : UInt8)).set 0 183).set 1 (UInt8.ofNat n)) 4 id 4
/-- With its check. -/
def lay2 (id : Nat) (data : List UInt8) : List UInt8 := num (lay1 id data.length) 8 (sum ((lay1 id data.length).take 8 ++ data)).toNat 4
/-- A chunk. -/
def frm (id : Nat) (data : List UInt8) : List UInt8 := (lay2 id data).take 12 ++ data ++ (lay2 id data).drop (12 + data.length)
theorem lay1_len (id n : Nat) : (lay1 id n).length = 96 := by unfold lay1; rw [num_len]; simp
theorem lay2_len (id : Nat) (data : List UInt8) : (lay2 id data).length = 96 := by unfold lay2; rw [num_len, lay1_len]
theorem frm_len (id : Nat) (data : List UInt8) (h : data.length ≤ 64) : (frm id data).length = 96 := by unfold frm; simp [lay2_len]; omega
theorem arr44 (tm : Array Value) (h : tm.size = 44) : ∃ u0 u1 u2 u3 u4 u5 u6 u7 u8 u9 u10 u11 u12 u13 u14 u15 u16 u17 u18 u19 u20 u21 u22 u23 u24 u25 u26 u27 u28 u29 u30 u31 u32 u33 u34 u35 u36 u37 u38 u39 u40 u41 u42 u43, tm = #[u0, u1, u2, u3, u4, u5, u6, u7, u8, u9, u10, u11, u12, u13, u14, u15, u16, u17, u18, u19, u20, u21, u22, u23, u24, u25, u26, u27, u28, u29, u30, u31, u32, u33, u34, u35, u36, u37, u38, u39, u40, u41, u42, u43] := by
  obtain ⟨l0⟩ := tm
  have h0 : l0.length = 44 := h
  clear h
  obtain ⟨u0, l1, rfl, h1⟩ := take1 h0
  clear h0
  obtain ⟨u1, l2, rfl, h2⟩ := take1 h1
  clear h1
  obtain ⟨u2, l3, rfl, h3⟩ := take1 h2
  clear h2
  obtain ⟨u3, l4, rfl, h4⟩ := take1 h3
  clear h3
  obtain ⟨u4, l5, rfl, h5⟩ := take1 h4
  clear h4
  obtain ⟨u5, l6, rfl, h6⟩ := take1 h5
  clear h5
  obtain ⟨u6, l7, rfl, h7⟩ := take1 h6
  clear h6
  obtain ⟨u7, l8, rfl, h8⟩ := take1 h7
  clear h7
  obtain ⟨u8, l9, rfl, h9⟩ := take1 h8
  clear h8
  obtain ⟨u9, l10, rfl, h10⟩ := take1 h9
  clear h9
  obtain ⟨u10, l11, rfl, h11⟩ := take1 h10
  clear h10
  obtain ⟨u11, l12, rfl, h12⟩ := take1 h11
  clear h11
  obtain ⟨u12, l13, rfl, h13⟩ := take1 h12
  clear h12
  obtain ⟨u13, l14, rfl, h14⟩ := take1 h13
  clear h13
  obtain ⟨u14, l15, rfl, h15⟩ := take1 h14
  clear h14
  obtain ⟨u15, l16, rfl, h16⟩ := take1 h15
  clear h15
  obtain ⟨u16, l17, rfl, h17⟩ := take1 h16
  clear h16
  obtain ⟨u17, l18, rfl, h18⟩ := take1 h17
  clear h17
  obtain ⟨u18, l19, rfl, h19⟩ := take1 h18
  clear h18
  obtain ⟨u19, l20, rfl, h20⟩ := take1 h19
  clear h19
  obtain ⟨u20, l21, rfl, h21⟩ := take1 h20
  clear h20
  obtain ⟨u21, l22, rfl, h22⟩ := take1 h21
  clear h21
  obtain ⟨u22, l23, rfl, h23⟩ := take1 h22
  clear h22
  obtain ⟨u23, l24, rfl, h24⟩ := take1 h23
  clear h23
  obtain ⟨u24, l25, rfl, h25⟩ := take1 h24
  clear h24
  obtain ⟨u25, l26, rfl, h26⟩ := take1 h25
  clear h25
  obtain ⟨u26, l27, rfl, h27⟩ := take1 h26
  clear h26
  obtain ⟨u27, l28, rfl, h28⟩ := take1 h27
  clear h27
  obtain ⟨u28, l29, rfl, h29⟩ := take1 h28
  clear h28
  obtain ⟨u29, l30, rfl, h30⟩ := take1 h29
  clear h29
  obtain ⟨u30, l31, rfl, h31⟩ := take1 h30
  clear h30
  obtain ⟨u31, l32, rfl, h32⟩ := take1 h31
  clear h31
  obtain ⟨u32, l33, rfl, h33⟩ := take1 h32
  clear h32
  obtain ⟨u33, l34, rfl, h34⟩ := take1 h33
  clear h33
  obtain ⟨u34, l35, rfl, h35⟩ := take1 h34
  clear h34
  obtain ⟨u35, l36, rfl, h36⟩ := take1 h35
  clear h35
  obtain ⟨u36, l37, rfl, h37⟩ := take1 h36
  clear h36
  obtain ⟨u37, l38, rfl, h38⟩ := take1 h37
  clear h37
  obtain ⟨u38, l39, rfl, h39⟩ := take1 h38
  clear h38
  obtain ⟨u39, l40, rfl, h40⟩ := take1 h39
  clear h39
  obtain ⟨u40, l41, rfl, h41⟩ := take1 h40
  clear h40
  obtain ⟨u41, l42, rfl, h42⟩ := take1 h41
  clear h41
  obtain ⟨u42, l43, rfl, h43⟩ := take1 h42
  clear h42
  obtain ⟨u43, l44, rfl, h44⟩ := take1 h43
  clear h43
  obtain rfl : l44 = [] := List.eq_nil_of_length_eq_zero h44
  exact ⟨_, _, _, _, _, _, _, _, _, _, _, _, _, _, _, _, _, _, _, _, _, _, _, _, _, _, _, _, _, _, _, _, _, _, _, _, _, _, _, _, _, _, _, _, rfl⟩
set_option maxRecDepth 100000 in
set_option maxHeartbeats 1600000 in
theorem put_yes (id : Nat) (hid : id < 4294967296) (a : Option Addr) (c2 : Nat) (data : List UInt8) (hd : data.length ≤ 64) (w : World) (h : BS w (.slice a data.length c2) data) {B : Nat} {w0 : World} {R : HP} (s : St B w0 w R) :
    Calls Try.prog 60 #[.int .i64 (id : Int), .slice a data.length c2] w fun e w' => ∃ g, e = .returned (.tuple #[.slice (some ⟨g, 0, none⟩) 96 96, .bool true]) ∧ Add w w' ∧ w.heap.size ≤ g ∧
      St B w0 w' (row 5 1 (.slice (some ⟨g, 0, none⟩) 96 96) 96 (bvs (frm id data)) * R) := by
  have S := Lib.hid s
  have HB := Lib.hid h
  have hs4 : ∀ w g, (Instr.sliceAt 37 (.slice (some ⟨g, 0, none⟩) 96 96) (some (.int .i64 4)) none none).run Try.prog w = .ok (.slice (some ⟨g, 4, none⟩) 92 92) w := fun w g =>
    run_slice_sl tB w (some ⟨g, 0, none⟩) 96 96 (some (.int .i64 4)) none 4 96 (.inr ⟨_, rfl⟩) (.inl ⟨rfl, rfl⟩) (by omega) (by omega)
  have e183 : bv 183 = .int .u8 183 := rfl
  have elen : bv (UInt8.ofNat data.length) = .int .u8 (data.length : Int) := by unfold bv; rw [UInt8.toNat_ofNat', Nat.mod_eq_of_lt (by omega)]
  clear s h
  go_enter Try.func60, Try.ntmps60
  go_wp2_with (at_make; go_must (refine wpl_make1 rfl _ _ rfl tB rfl (St.init w) .i64 .i64 96 96 rfl rfl (Nat.le_refl _) (by unfold maxLen; omega) (by omega) ?_); intro g w1 s1; rw [bvs_zeros] at s1; obtain ⟨-, -, -, -, -, hcell, hfree, -, hset⟩ := s1.rowB'; have k0 := hcell 0 (by simp); have f0 := hfree 0; have s2 := hset 0 183 (by simp); clear hcell hfree hset; obtain ⟨-, -, -, -, -, hcell, hfree, -, hset⟩ := s2.rowB'; have k1 := hcell 1 (by simp); have f1 := hfree 1; have s3 := hset 1 (UInt8.ofNat data.length) (by simp); rw [e183] at k1 f1 s3; rw [elen] at s3; have S3 := Lib.hid s3; clear hcell hfree hset s1 s2 s3; generalize ((List.replicate 96 (0 : UInt8)).set 0 183)[1] = z1 at k1; generalize (List.replicate 96 (0 : UInt8))[0] = z0 at k0)
  refine (number_calls g 4 96 96 92 92 _ id hid (by simp) (by omega) _ S3.out).mono ?_
  rintro e w2 ⟨rfl, s2⟩
  have hL := lay1_len id data.length
  have hs2 : St w.heap.size w w2 (row 5 1 (.slice (some ⟨g, 0, none⟩) 96 96) 96 (bvs (lay1 id data.length)) * emp) := s2
  have HF := Lib.hid (show frm id data = (lay2 id data).take 12 ++ data ++ (lay2 id data).drop (12 + data.length) from rfl)
  have HL2 := Lib.hid (show lay2 id data = num (lay1 id data.length) 8 (sum ((lay1 id data.length).take 8 ++ data)).toNat 4 from rfl)
  have HL3 := Lib.hid (lay2_len id data)
  generalize lay1 id data.length = L at hL hs2 HL2
  have S2 := Lib.hid hs2
  have HL := Lib.hid hL
  clear s2 hs2 hL S3 k0 k1 f0 f1 e183 elen
  go_wp2_with fail
  have g0 : ∀ w', Add w2 w' → BS w' (.slice a data.length c2) data := fun w' ha => (HB.out.below S2.out.below).below ha
  have gl : ∀ w', Add w2 w' → BS w' (.slice (some ⟨g, 0, none⟩) 8 96) (L.take 8) := fun w' ha => by
    have q : BS w2 (.slice (some ⟨g, 0, none⟩) 96 96) L := S2.out.bs
    exact (q.sub 0 8 (by omega) (by rw [HL.out]; omega)).below ha
  have hs8 : ∀ w, (Instr.sliceAt 37 (.slice (some ⟨g, 0, none⟩) 96 96) (some (.int .i64 8)) none none).run Try.prog w = .ok (.slice (some ⟨g, 8, none⟩) 88 88) w := fun w =>
    run_slice_sl tB w (some ⟨g, 0, none⟩) 96 96 (some (.int .i64 8)) none 8 96 (.inr ⟨_, rfl⟩) (.inl ⟨rfl, rfl⟩) (by omega) (by omega)
  have hs8' : ∀ w, (Instr.sliceAt 37 (.slice (some ⟨g, 0, none⟩) 96 96) none (some (.int .i64 8)) none).run Try.prog w = .ok (.slice (some ⟨g, 0, none⟩) 8 96) w := fun w =>
    run_slice_sl tB w (some ⟨g, 0, none⟩) 96 96 none (some (.int .i64 8)) 0 8 (.inl ⟨rfl, rfl⟩) (.inr ⟨_, rfl⟩) (by omega) (by omega)
  refine wp_region_rs_last [_, _, _, _, _, _, _] _ mixed (by kernel_rfl) (by kernel_rfl) ?_
  refine RSl.exact (.slice (some ⟨g, 0, none⟩) 96 96) rfl rfl rfl rfl (fun _ _ => rfl) ?_
  refine RSl.exact (.slice (some ⟨g, 8, none⟩) 88 88) rfl rfl rfl rfl (fun w' ha => exec_slice rfl (hs8 w')) ?_
  refine RSl.exact (.slice (some ⟨g, 0, none⟩) 96 96) rfl rfl rfl rfl (fun _ _ => rfl) ?_
  refine RSl.exact (.slice (some ⟨g, 0, none⟩) 8 96) rfl rfl rfl rfl (fun w' ha => exec_slice rfl (hs8' w')) ?_
  refine RSl.exact (.slice a data.length c2) rfl rfl rfl rfl (fun _ _ => rfl) ?_
  refine RSl.value (.so (fun v w => BSS w v [L.take 8, data])) (Stab.bss _) rfl rfl rfl (fun ρ w' ha hag => build_bss (e := 37) rfl [.slice (some ⟨g, 0, none⟩) 8 96, .slice a data.length c2] [L.take 8, data] rfl (fun w => by have e34 := hag.ex 34 (.slice (some ⟨g, 0, none⟩) 8 96) rfl rfl rfl; have e35 := hag.ex 35 (.slice a data.length c2) rfl rfl rfl; simp [e34, e35, go_sem]) (fun i hi => match i, hi with | 0, _ => ⟨_, rfl, gl w' ha⟩ | 1, _ => ⟨_, rfl, g0 w' ha⟩) (by simp [maxLen])) ?_
  refine RSl.callS (.ex (rv (sum (L.take 8 ++ data)))) (Stab.ex _) _ rfl rfl rfl (fun ρ w' ha hag => ⟨_, exec_go hag.2.2.2 _ [.tmp 36] _ rfl _ rfl rfl, exOf (by have := many_callsB (hag.so 36 _ rfl rfl rfl); simpa using this)⟩) ?_
  generalize hc : sum (L.take 8 ++ data) = crc at HL2
  intro a' w3 ha hd hs hh
  have hcr : crc.toNat < 4294967296 := crc.isLt
  have S3 := Lib.hid (S2.out.keep ha)
  have HA := Lib.hid ha
  clear ha
  obtain ⟨tm, df⟩ := a'
  replace hd : df = [] := hd
  subst hd
  obtain ⟨u0, u1, u2, u3, u4, u5, u6, u7, u8, u9, u10, u11, u12, u13, u14, u15, u16, u17, u18, u19, u20, u21, u22, u23, u24, u25, u26, u27, u28, u29, u30, u31, u32, u33, u34, u35, u36, u37, u38, u39, u40, u41, u42, u43, rfl⟩ := arr44 tm hs
  obtain rfl : u1 = .slice a data.length c2 := hh 1 (by simp)
  obtain rfl : u6 = .slice (some ⟨g, 0, none⟩) 96 96 := hh 6 (by simp)
  obtain rfl : u32 = .slice (some ⟨g, 8, none⟩) 88 88 := hh 32 (by simp)
  obtain rfl : u37 = rv crc := hh 37 (by simp)
  clear hh hs
  refine last_call _ [.tmp 32, .tmp 37] _ rfl [.slice (some ⟨g, 8, none⟩) 88 88, rv crc] rfl rfl rfl rfl ?_
  refine (number_calls g 8 96 96 88 88 L crc.toNat hcr (by rw [HL.out]; omega) (by omega) _ S3.out).mono ?_
  rintro e w4 ⟨rfl, s4⟩
  rw [← HL2.out] at s4
  refine ⟨_, rfl, ?_⟩
  have HB4 := Lib.hid (HB.out.below s4.below)
  have S4 := Lib.hid s4
  clear s4 S3 S2 g0 gl HL2 HL hc hcr HA hs4 hs8 hs8'
  have hs12 : ∀ w, (Instr.sliceAt 37 (.slice (some ⟨g, 0, none⟩) 96 96) (some (.int .i64 12)) none none).run Try.prog w = .ok (.slice (some ⟨g, 12, none⟩) 84 84) w := fun w =>
    run_slice_sl tB w (some ⟨g, 0, none⟩) 96 96 (some (.int .i64 12)) none 12 96 (.inr ⟨_, rfl⟩) (.inl ⟨rfl, rfl⟩) (by omega) (by omega)
  generalize lay2 id data = L2 at S4 HF HL3
  obtain ⟨w5, hr, s5⟩ := run_copy_st (P := Try.prog) (dT := 37) (sT := 37) (ty := 3) Try.underlying37 (by kernel_rfl) S4.out 12 84 84 a c2 data HB4.out (by omega) (by rw [HL3.out]; omega)
  rw [← HF.out] at s5
  have S5 := Lib.hid s5
  clear s5 S4 HF
  go_wp2_with fail
  go_ret2
  have t5 := S5.out
  exact ⟨g, rfl, t5.below, t5.rowB'.2.2.2.2.1, S.out.join t5.left⟩
end Go.Proofs.Ytmilfilmhkpjoaa.FrmW
