/- The law FrameTakes, walked. -/
import Derived.Test.YtgpeckaimkbmoaaFrmS
namespace Go.Proofs.Ytgpeckaimkbmoaa.FrmL4
open Go Go.RowKit Go.Proofs.Ytgpeckaimkbmoaa Go.Proofs.Ytgpeckaimkbmoaa.Sp Go.Proofs.Ytgpeckaimkbmoaa.Reg Go.Proofs.Ytgpeckaimkbmoaa.CrcW Go.Proofs.Ytgpeckaimkbmoaa.CrcM Go.Proofs.Ytgpeckaimkbmoaa.FrmW
open Go.Proofs.Ytgpeckaimkbmoaa.SlW (RetBS RetBSok RetNo)

theorem xor_u8 (a b : UInt8) : bits .xor .u8 (a.toNat : Int) (b.toNat : Int) = ((a ^^^ b).toNat : Int) := by
  rw [u8_xor_nat _ _ (UInt8.toNat_lt a) (UInt8.toNat_lt b), UInt8.toNat_xor]
theorem of_u8 (x : Int) (h : (Lit.int .u8 x).wf = true) : ∃ X : UInt8, x = (X.toNat : Int) := by
  have q : 0 ≤ x ∧ x ≤ 255 := by simpa [Lit.wf, IntKind.min, IntKind.max, IntKind.signed, IntKind.bits] using h
  exact ⟨UInt8.ofNat x.toNat, by rw [UInt8.toNat_ofNat']; omega⟩
set_option maxHeartbeats 3200000 in
set_option maxRecDepth 100000 in
theorem walkRow (a : Option Addr) (c : Nat) (bs : List UInt8) (id0 : Int) (a' : Option Addr) (c' : Nat) (ds : List UInt8) (i0 x0 k0 y0 cut0 : Int) (w : World) (h : BS w (.slice a bs.length c) bs) (_y : bs.length * 1 ≤ 140737488351232) (_w1 : (Lit.int .i64 id0).wf = true)
    (h' : BS w (.slice a' ds.length c') ds) (_y' : ds.length * 1 ≤ 140737488351232) (_w3 : (Lit.int .i64 i0).wf = true) (w4 : (Lit.int .u8 x0).wf = true) (_w5 : (Lit.int .i64 k0).wf = true) (w6 : (Lit.int .u8 y0).wf = true) (_w7 : (Lit.int .i64 cut0).wf = true) :
    Calls Try.prog 11 #[.slice a bs.length c, .int .i64 id0, .slice a' ds.length c', .int .i64 i0, .int .u8 x0, .int .i64 k0, .int .u8 y0, .int .i64 cut0] w fun e w' => e = .returned (.bool true) ∧ Below w.heap.size w w' := by
  obtain ⟨X, rfl⟩ := of_u8 x0 w4
  obtain ⟨Y, rfl⟩ := of_u8 y0 w6
  have HB := Lib.hid h
  have HM := Lib.hid h'
  clear h h' _y _y' _w1 _w3 w4 _w5 w6 _w7
  by_cases hl1 : 200 < bs.length
  · have hd1 : (200 : Int) < (bs.length : Int) := by omega
    go_enter Try.func11, Try.ntmps11
    go_wp2_with fail
    refine (FrmW.awake_calls _).mono ?_
    rintro e w1 ⟨rfl, h1⟩
    go_wp2_with fail
    go_ret
    exact ⟨rfl, h1⟩
  · by_cases hl2 : 64 < ds.length
    · have hd1 : (bs.length : Int) ≤ 200 := by omega
      have hd2 : (64 : Int) < (ds.length : Int) := by omega
      go_enter Try.func11, Try.ntmps11
      go_wp2_with fail
      refine (FrmW.awake_calls _).mono ?_
      rintro e w1 ⟨rfl, h1⟩
      go_wp2_with fail
      go_ret
      exact ⟨rfl, h1⟩
    · have hd1 : (bs.length : Int) ≤ 200 := by omega
      have hd2 : (ds.length : Int) ≤ 64 := by omega
      have k1 := and_m32 id0
      have k2 := and_m16 i0
      have k3 := and_m16 k0
      have k4 := and_m8 cut0
      obtain ⟨m, hm, hm1⟩ : ∃ m : Nat, id0 % 4294967296 = (m : Int) ∧ m < 4294967296 := ⟨(id0 % 4294967296).toNat, by omega, by omega⟩
      obtain ⟨i, hi, hi1⟩ : ∃ i : Nat, i0 % 65536 % 96 = (i : Int) ∧ i < 96 := ⟨(i0 % 65536 % 96).toNat, by omega, by omega⟩
      obtain ⟨k, hk, hk1⟩ : ∃ k : Nat, k0 % 65536 % 96 = (k : Int) ∧ k < 96 := ⟨(k0 % 65536 % 96).toNat, by omega, by omega⟩
      obtain ⟨t, ht, ht1⟩ : ∃ t : Nat, cut0 % 256 % 97 = (t : Int) ∧ t < 97 := ⟨(cut0 % 256 % 97).toNat, by omega, by omega⟩
      have hcv := run_str (P := Try.prog) Try.underlying22 Try.underlying5 Try.underlying9 HM.out
      go_enter Try.func11, Try.ntmps11
      go_wp2_with fail
      refine (rframe_yes m hm1 ds (by omega) w).mono ?_
      rintro e w1 ⟨rfl, h1⟩
      have H1 := Lib.hid h1
      have hfl := frm_len m ds (by omega)
      clear h1 hcv
      generalize frm m ds = F at hfl ⊢
      obtain ⟨cap, w2, hby, own⟩ := bytes_of (P := Try.prog) Try.underlying9 Try.underlying22 Try.underlying5 F (by rw [hfl]; unfold maxLen; omega) w1
      have c1 := own.cell i (by omega)
      have f1 := own.free i (by omega)
      have e1 : Value.int .u8 (bits .xor .u8 ((F[i]'(by omega)).toNat : Int) (X.toNat : Int)) = bv (F[i]'(by omega) ^^^ X) := congrArg (Value.int .u8) (xor_u8 _ _)
      have own2 := own.set i (F[i]'(by omega) ^^^ X) (by omega)
      generalize (F[i]'(by omega) ^^^ X) = Z at e1 own2
      generalize F[i]'(by omega) = z0 at e1 c1
      have hl2' : (F.set i Z).length = 96 := by rw [List.length_set]; exact hfl
      generalize F.set i Z = F2 at own2 hl2'
      have c2 := own2.cell k (by omega)
      have f2 := own2.free k (by omega)
      have e2 : Value.int .u8 (bits .xor .u8 ((F2[k]'(by omega)).toNat : Int) (Y.toNat : Int)) = bv (F2[k]'(by omega) ^^^ Y) := congrArg (Value.int .u8) (xor_u8 _ _)
      have own3 := own2.set k (F2[k]'(by omega) ^^^ Y) (by omega)
      generalize (F2[k]'(by omega) ^^^ Y) = Z2 at e2 own3
      generalize F2[k]'(by omega) = z2 at e2 c2
      have hl3 : (F2.set k Z2).length = 96 := by rw [List.length_set]; exact hl2'
      generalize F2.set k Z2 = F3 at own3 hl3
      have OWN := Lib.hid own3
      have HL3 := Lib.hid hl3
      rw [hfl] at hby
      clear own own2 own3 hl2' hl3
      go_wp2_with fail
      go_loopw [20] (fun v20 wr => ∃ kk : Nat, kk ≤ 3 ∧ v20 = .int .i64 kk ∧ Add w wr ∧ BS wr (.slice (some ⟨w1.heap.size, 0, none⟩) 96 cap) F3) (fun v20 _ => 3 - (intOf v20).toNat)
      case atStart =>
        refine ⟨0, by omega, rfl, H1.out.trans OWN.out.add, ?_⟩
        have q := OWN.out.bs
        rw [HL3.out] at q
        exact q
      case round =>
        obtain ⟨kk, hkk, rfl, ha, hc⟩ := hrel
        have HA := Lib.hid ha
        have HC := Lib.hid hc
        clear ha hc c1 f1 c2 f2 e1 e2 hby hi hk
        by_cases hlt : kk < 3
        · have hcap : 96 ≤ cap := by have q := HC.out.rd.2.1; rw [HL3.out] at q; exact q
          have hsl : ∀ w, (Instr.sliceAt 22 (.slice (some ⟨w1.heap.size, 0, none⟩) 96 cap) none (some (.int .i64 ↑t)) none).run Try.prog w = .ok (.slice (some ⟨w1.heap.size, 0, none⟩) t cap) w := fun w => by
            have q := run_slice_sl tB w (some ⟨w1.heap.size, 0, none⟩) 96 cap none (some (.int .i64 ↑t)) 0 t (.inl ⟨rfl, rfl⟩) (.inr ⟨_, rfl⟩) (by omega) (by omega)
            rw [if_neg (by omega)] at q
            exact q
          have HT := Lib.hid (show BS _ (.slice (some ⟨w1.heap.size, 0, none⟩) t cap) (F3.take t) from by
            have q := HC.out.sub 0 t (by omega) (by rw [HL3.out]; omega)
            rw [show t - 0 = t from rfl, show cap - 0 = cap from rfl, List.drop_zero] at q
            have e : subA (some ⟨w1.heap.size, 0, none⟩) cap 0 1 = some ⟨w1.heap.size, 0, none⟩ := by unfold subA; split <;> rfl
            rw [e] at q
            exact q)
          rcases (by omega : kk = 0 ∨ kk = 1 ∨ kk = 2) with rfl | rfl | rfl
          · have hb0 := HB.out.below HA.out
            go_wp2_with fail
            refine (take_any _ _ _ (bs) _ (hb0.alloc _)).mono ?_
            intro e w4 q
            unfold TakeAny at q
            by_cases hg : good (bs)
            · rw [if_pos hg] at q
              obtain ⟨v4, rfl, h4, b4⟩ := q
              obtain ⟨a4, c4, rfl, hb4⟩ := bs_val b4
              have hA := (Add.alloc _ _).trans h4
              have hr := rtake_any (bs) w4 (by omega)
              rw [if_pos hg] at hr
              have HR := Lib.hid hr
              have q1 := run_str (P := Try.prog) Try.underlying22 Try.underlying5 Try.underlying9 (hb0.below hA)
              have HA4 := Lib.hid (HA.out.trans hA)
              have HC4 := Lib.hid (HC.out.below hA)
              have HB4 := Lib.hid hb4
              clear hr b4 hb4 h4 hA hb0 hg
              go_wp2_with fail
              refine HR.out.mono ?_
              rintro e w5 ⟨rfl, h5⟩
              have q2 := run_str (P := Try.prog) Try.underlying22 Try.underlying5 Try.underlying9 (HB4.out.below h5)
              have HA5 := Lib.hid (HA4.out.trans h5)
              have HC5 := Lib.hid (HC4.out.below h5)
              clear h5 q1 HR HA4 HC4 HB4
              go_wp2_with fail
              go_roundw
              case rel =>
                exact ⟨1, by omega, rfl, HA5.out, HC5.out⟩
              case measure => simp [intOf]
            · rw [if_neg hg] at q
              obtain ⟨rfl, h4⟩ := q
              have hA := (Add.alloc _ _).trans h4
              have hr := rtake_any (bs) w4 (by omega)
              rw [if_neg hg] at hr
              have HR := Lib.hid hr
              have q1 := run_str (P := Try.prog) Try.underlying22 Try.underlying5 Try.underlying9 (hb0.below hA)
              have HA4 := Lib.hid (HA.out.trans hA)
              have HC4 := Lib.hid (HC.out.below hA)
              clear hr h4 hA hb0 hg
              go_wp2_with fail
              refine HR.out.mono ?_
              rintro e w5 ⟨rfl, h5⟩
              have q2 : (convert 22 9 (.slice none 0 0)).run Try.prog w5 = .ok (.string ⟨#[]⟩) w5 := run_str (P := Try.prog) Try.underlying22 Try.underlying5 Try.underlying9 (BS.nil w5)
              have HA5 := Lib.hid (HA4.out.trans h5)
              have HC5 := Lib.hid (HC4.out.below h5)
              clear h5 q1 HR HA4 HC4
              go_wp2_with fail
              go_roundw
              case rel =>
                exact ⟨1, by omega, rfl, HA5.out, HC5.out⟩
              case measure => simp [intOf]
          · have hb0 := HC.out
            go_wp2_with fail
            refine (take_any _ _ _ (F3) _ (hb0.alloc _)).mono ?_
            intro e w4 q
            unfold TakeAny at q
            by_cases hg : good (F3)
            · rw [if_pos hg] at q
              obtain ⟨v4, rfl, h4, b4⟩ := q
              obtain ⟨a4, c4, rfl, hb4⟩ := bs_val b4
              have hA := (Add.alloc _ _).trans h4
              have hr := rtake_any (F3) w4 (by rw [HL3.out]; omega)
              rw [if_pos hg] at hr
              have HR := Lib.hid hr
              have q1 := run_str (P := Try.prog) Try.underlying22 Try.underlying5 Try.underlying9 (hb0.below hA)
              have HA4 := Lib.hid (HA.out.trans hA)
              have HC4 := Lib.hid (HC.out.below hA)
              have HB4 := Lib.hid hb4
              clear hr b4 hb4 h4 hA hb0 hg
              go_wp2_with fail
              refine HR.out.mono ?_
              rintro e w5 ⟨rfl, h5⟩
              have q2 := run_str (P := Try.prog) Try.underlying22 Try.underlying5 Try.underlying9 (HB4.out.below h5)
              have HA5 := Lib.hid (HA4.out.trans h5)
              have HC5 := Lib.hid (HC4.out.below h5)
              clear h5 q1 HR HA4 HC4 HB4
              go_wp2_with fail
              go_roundw
              case rel =>
                exact ⟨2, by omega, rfl, HA5.out, HC5.out⟩
              case measure => simp [intOf]
            · rw [if_neg hg] at q
              obtain ⟨rfl, h4⟩ := q
              have hA := (Add.alloc _ _).trans h4
              have hr := rtake_any (F3) w4 (by rw [HL3.out]; omega)
              rw [if_neg hg] at hr
              have HR := Lib.hid hr
              have q1 := run_str (P := Try.prog) Try.underlying22 Try.underlying5 Try.underlying9 (hb0.below hA)
              have HA4 := Lib.hid (HA.out.trans hA)
              have HC4 := Lib.hid (HC.out.below hA)
              clear hr h4 hA hb0 hg
              go_wp2_with fail
              refine HR.out.mono ?_
              rintro e w5 ⟨rfl, h5⟩
              have q2 : (convert 22 9 (.slice none 0 0)).run Try.prog w5 = .ok (.string ⟨#[]⟩) w5 := run_str (P := Try.prog) Try.underlying22 Try.underlying5 Try.underlying9 (BS.nil w5)
              have HA5 := Lib.hid (HA4.out.trans h5)
              have HC5 := Lib.hid (HC4.out.below h5)
              clear h5 q1 HR HA4 HC4
              go_wp2_with fail
              go_roundw
              case rel =>
                exact ⟨2, by omega, rfl, HA5.out, HC5.out⟩
              case measure => simp [intOf]
          · have hb0 := HT.out
            go_wp2_with fail
            refine (take_any _ _ _ (F3.take t) _ (hb0.alloc _)).mono ?_
            intro e w4 q
            unfold TakeAny at q
            by_cases hg : good (F3.take t)
            · rw [if_pos hg] at q
              obtain ⟨v4, rfl, h4, b4⟩ := q
              obtain ⟨a4, c4, rfl, hb4⟩ := bs_val b4
              have hA := (Add.alloc _ _).trans h4
              have hr := rtake_any (F3.take t) w4 (by rw [List.length_take, HL3.out]; omega)
              rw [if_pos hg] at hr
              have HR := Lib.hid hr
              have q1 := run_str (P := Try.prog) Try.underlying22 Try.underlying5 Try.underlying9 (hb0.below hA)
              have HA4 := Lib.hid (HA.out.trans hA)
              have HC4 := Lib.hid (HC.out.below hA)
              have HB4 := Lib.hid hb4
              clear hr b4 hb4 h4 hA hb0 hg
              go_wp2_with fail
              refine HR.out.mono ?_
              rintro e w5 ⟨rfl, h5⟩
              have q2 := run_str (P := Try.prog) Try.underlying22 Try.underlying5 Try.underlying9 (HB4.out.below h5)
              have HA5 := Lib.hid (HA4.out.trans h5)
              have HC5 := Lib.hid (HC4.out.below h5)
              clear h5 q1 HR HA4 HC4 HB4
              go_wp2_with fail
              go_roundw
              case rel =>
                exact ⟨3, by omega, rfl, HA5.out, HC5.out⟩
              case measure => simp [intOf]
            · rw [if_neg hg] at q
              obtain ⟨rfl, h4⟩ := q
              have hA := (Add.alloc _ _).trans h4
              have hr := rtake_any (F3.take t) w4 (by rw [List.length_take, HL3.out]; omega)
              rw [if_neg hg] at hr
              have HR := Lib.hid hr
              have q1 := run_str (P := Try.prog) Try.underlying22 Try.underlying5 Try.underlying9 (hb0.below hA)
              have HA4 := Lib.hid (HA.out.trans hA)
              have HC4 := Lib.hid (HC.out.below hA)
              clear hr h4 hA hb0 hg
              go_wp2_with fail
              refine HR.out.mono ?_
              rintro e w5 ⟨rfl, h5⟩
              have q2 : (convert 22 9 (.slice none 0 0)).run Try.prog w5 = .ok (.string ⟨#[]⟩) w5 := run_str (P := Try.prog) Try.underlying22 Try.underlying5 Try.underlying9 (BS.nil w5)
              have HA5 := Lib.hid (HA4.out.trans h5)
              have HC5 := Lib.hid (HC4.out.below h5)
              clear h5 q1 HR HA4 HC4
              go_wp2_with fail
              go_roundw
              case rel =>
                exact ⟨3, by omega, rfl, HA5.out, HC5.out⟩
              case measure => simp [intOf]
        · obtain rfl : kk = 3 := by omega
          go_wp2_with fail
          refine (FrmW.awake_calls _).mono ?_
          rintro e w4 ⟨rfl, h4⟩
          have H4 := Lib.hid (HA.out.trans h4)
          clear h4
          go_wp2_with fail
          go_ret
          exact ⟨rfl, H4.out⟩
end Go.Proofs.Ytgpeckaimkbmoaa.FrmL4
