/- The trio's law file: awake, walked. -/
import Derived.Test.YtkkkncchinejmaaTrN
import Derived.Test.YtkkkncchinejmaaStr
namespace Go.Proofs.Ytkkkncchinejmaa.TrL
open Go Go.RowKit Go.Proofs.Ytkkkncchinejmaa Go.Proofs.Ytkkkncchinejmaa.Sp Go.Proofs.Ytkkkncchinejmaa.Reg Go.Proofs.Ytkkkncchinejmaa.SlW Go.Proofs.Ytkkkncchinejmaa.Fus Go.Proofs.Ytkkkncchinejmaa.TrM Go.Proofs.Ytkkkncchinejmaa.TapW Go.Proofs.Ytkkkncchinejmaa.TrW
theorem fz_nil {B : Nat} {w0 w : World} {R : HP} (s : St B w0 w R) : St B w0 w (fz (.pointer none) none * R) := by
  show St B w0 w (pur (Value.pointer none = .pointer none) * R)
  rw [St.pu]
  exact ⟨rfl, s⟩
theorem reads_lit {B : Nat} {w0 : World} {t : TypeId} {f : Nat × Nat} {g n : Nat} {C : Array Value} {bs : List UInt8} (hC : C = (bvs bs).toArray) (hn : n = bs.length) (h : bs.length ≤ maxLen) :
    Reads B w0 (pts g (.cells C t f)) (.slice (some ⟨g, 0, none⟩) n n) bs := fun _ _ s => by
  subst hn
  subst hC
  refine ⟨_, _, rfl, Nat.le_refl _, h, (fun e => by cases e), ?_⟩
  have q := (s.eq (sep_comm _ _)).rd 0 bs.length
  have e : (((bvs bs).toArray.toList.drop 0).take bs.length) = bvs bs := by simp [List.take_of_length_le]
  rw [e] at q
  exact q
/-- A new trio without a Fuse. -/
theorem newt0 {B : Nat} {w0 : World} {R : HP} (w : World) (s : St B w0 w R) : Calls Try.prog 16 #[.pointer none] w fun e w' => ∃ b p0 p1 p2, e = .returned (pp b) ∧ St B w0 w' (trx b none [p0, p1, p2] 0 [Tp.new, Tp.new, Tp.new] none * R) := by
  refine (newt_calls none w s).mono ?_
  rintro e w' ⟨b, p0, p1, p2, rfl, s'⟩
  exact ⟨b, p0, p1, p2, rfl, (fz_nil s').eq (by rw [trx_eq]; ac_rfl)⟩
section
variable {B : Nat} {w0 : World} {R : HP}
theorem tfail_calls (x : Option Addr) (ps : List Nat) (Ts : List Tp) (i : Nat) (h1 : i < ps.length) (h2 : i < Ts.length) (w : World) (s : St B w0 w (tps x ps Ts * R)) :
    Calls Try.prog 21 #[pp (ps.getD i 0)] w (RetS B w0 (tps x ps (Ts.set i ⟨(Ts.getD i Tp.new).b, (Ts.getD i Tp.new).loose, true⟩) * R) (.tuple #[])) :=
  (fail_calls _ _ _ w (tps_out (get_p h1) (get_T h2) s)).mono fun _ _ ⟨e, s⟩ => ⟨e, tps_in (get_p h1) h2 s⟩
end
def awT : Tp := ⟨[2, 7, 8], 0, false⟩
def awF : Tp := ⟨[2, 7, 8], 0, true⟩
theorem aw_app : trApp none [Tp.new, Tp.new, Tp.new] 0 [7, 8] = (0, none, [awT, awT, awT], 1) := by kernel_rfl
theorem aw_open (B : Nat) (w0 : World) (p0 p1 p2 : Nat) (R : HP) (e : Ending) (w' : World) : OpP B w0 none [p0, p1, p2] [awT, awT, awF] none R e w' = OpYes B w0 none [p0, p1, p2] [awT, awT, awF] none [[7, 8]] R e w' := by
  unfold OpP
  rw [if_neg (by decide +kernel), if_pos (by decide +kernel)]
  have h1 : best [awT, awT, awF] = [[7, 8]] := by decide +kernel
  have h2 : opK none [awT, awT, awF] (lvi [awT, awT, awF]) [[7, 8]] = (0, none, [awT, awT, awF]) := by kernel_rfl
  rw [h1, h2]
set_option maxRecDepth 100000 in
set_option maxHeartbeats 8000000 in
theorem awake_calls (w : World) : Calls Try.prog 13 #[] w fun e w' => e = .returned (.bool true) ∧ Add w w' := by
  go_enter Try.func13, Try.ntmps13
  go_wp2_with fail
  refine (newt0 _ (St.init w)).mono ?_
  rintro e w1 ⟨b, p0, p1, p2, rfl, s1⟩
  have S1 := Lib.hid s1
  clear s1
  go_wp2_with fail
  have s2 := S1.out.alloc (.cells #[.int .u8 7, .int .u8 8] 5)
  refine (tappend_calls none [Tp.new, Tp.new, Tp.new] 0 [7, 8] b p0 p1 p2 none (some ⟨w1.heap.size, 0, none⟩) 2 rfl (by omega) (by simp) _ (reads_right _ (reads_lit rfl rfl (by simp [maxLen]))) (s2.eq (Q := trx b none [p0, p1, p2] 0 [Tp.new, Tp.new, Tp.new] none * (pts w1.heap.size (.cells #[.int .u8 7, .int .u8 8] 5) * emp)) (by ac_rfl))).mono ?_
  rw [aw_app]
  rintro e w2 ⟨rfl, s3⟩
  have S3 := Lib.hid (show St w.heap.size w w2 (tro b p0 p1 p2 1 * (tps none [p0, p1, p2] [awT, awT, awT] * fz (.pointer none) none) * (pts w1.heap.size (.cells #[.int .u8 7, .int .u8 8] 5) * emp)) from s3)
  clear s2 s3 S1
  go_wp2_with fail
  refine (tapes_calls b p0 p1 p2 1 _ (S3.out.eq (Q := tro b p0 p1 p2 1 * (tps none [p0, p1, p2] [awT, awT, awT] * (fz (.pointer none) none * (pts w1.heap.size (.cells #[.int .u8 7, .int .u8 8] 5) * emp)))) (by ac_rfl))).mono ?_
  rintro e w3 ⟨rfl, s4⟩
  have S4 := Lib.hid s4
  clear s4 S3
  go_wp2_with fail
  have s5 := S4.out.alloc (.cells #[pp p0, pp p1, pp p2] 43)
  generalize w3.heap.size = g3 at *
  refine (tfail_calls none [p0, p1, p2] [awT, awT, awT] 2 (by simp) (by simp) _ (s5.eq (Q := tps none [p0, p1, p2] [awT, awT, awT] * (pts g3 (.cells #[pp p0, pp p1, pp p2] 43) * (fz (.pointer none) none * (tro b p0 p1 p2 1 * (pts w1.heap.size (.cells #[.int .u8 7, .int .u8 8] 5) * emp))))) (by ac_rfl))).mono ?_
  rintro e w4 ⟨rfl, s6⟩
  have s6 : St w.heap.size w w4 (tps none [p0, p1, p2] [awT, awT, awF] * (pts g3 (.cells #[pp p0, pp p1, pp p2] 43) * (fz (.pointer none) none * (tro b p0 p1 p2 1 * (pts w1.heap.size (.cells #[.int .u8 7, .int .u8 8] 5) * emp))))) := s6
  have s7 := s6.right
  have c0 := s7.cell 0
  have c1 := s7.cell 1
  have c2 := s7.cell 2
  simp at c0 c1 c2
  have S6 := Lib.hid s6
  clear s5 s6 s7 S4
  go_wp2_with fail
  clear c0 c1 c2
  refine (open_calls none [awT, awT, awF] p0 p1 p2 none rfl w4 (S6.out.eq (Q := tps none [p0, p1, p2] [awT, awT, awF] * (fz (.pointer none) none * (pts g3 (.cells #[pp p0, pp p1, pp p2] 43) * (tro b p0 p1 p2 1 * (pts w1.heap.size (.cells #[.int .u8 7, .int .u8 8] 5) * emp))))) (by ac_rfl))).mono ?_
  intro e w5 h
  rw [aw_open] at h
  obtain ⟨X, b5, v5, vs5, rfl, hbr, s8⟩ := h
  obtain ⟨A5, c5, rfl, h51, h52, h53, h54⟩ := hbr.val
  have S8 := Lib.hid s8
  have Hbr := Lib.hid hbr
  have H53 := Lib.hid h53
  have H54 := Lib.hid h54
  clear hbr h53 h54
  clear s8 S6
  go_wp2_with fail
  have s9 := S8.out.alloc (.cells #[.int .u8 2, .int .u8 7, .int .u8 8, .int .u8 3, .int .u8 1] 5)
  generalize w5.heap.size = g5 at *
  refine (split_calls (some ⟨g5, 0, none⟩) 5 [2, 7, 8, 3, 1] _ (reads_right _ (reads_lit rfl rfl (by simp [maxLen]))) (by simp) s9).mono ?_
  rintro e w6 ⟨v6, vs6, rfl, hv6, s10⟩
  have hsp : spl [2, 7, 8, 3, 1] = [[7, 8]] := by decide +kernel
  rw [hsp] at s10
  rw [hsp, show (jn [[7, 8]]).length = 3 from rfl]
  obtain ⟨a6, c6, rfl, -⟩ := ob_open s10
  have hb := Hbr.out.bss (H := ob (.slice a6 1 c6) vs6 [[7, 8]] * (pts g5 (.cells #[.int .u8 2, .int .u8 7, .int .u8 8, .int .u8 3, .int .u8 1] 5) * (trx b5 none [p0, p1, p2] 1 [awT, awT, awF] none * (pts g3 (.cells #[pp p0, pp p1, pp p2] 43) * (tro b p0 p1 p2 1 * (pts w1.heap.size (.cells #[.int .u8 7, .int .u8 8] 5) * emp)))))) (w := w6) (s10.eq (by show ob (.slice a6 1 c6) vs6 [[7, 8]] * (_ * (X * (trx b5 none [p0, p1, p2] 1 [awT, awT, awF] none * _))) = _; ac_rfl))
  obtain ⟨-, -, -, -, us, hr, hlv, hbu⟩ := hb.open'
  obtain ⟨u, hu, hbu⟩ := hbu 0 (by simp)
  obtain ⟨a7, c7, rfl, -⟩ := id hbu
  obtain ⟨b7, o7, rfl, hc⟩ := hr.at (by rintro rfl; simp at hlv)
  have hcell := hc 0 _ hu
  have hcell : w6.cell? ⟨b7, o7, none⟩ = some (.slice a7 2 c7) := hcell
  have hcv : (convert 23 9 (.slice a7 2 c7)).run Try.prog w6 = .ok (.string ⟨#[7, 8]⟩) w6 := run_str (P := Try.prog) Try.underlying23 Try.underlying5 Try.underlying9 hbu
  have HA := Lib.hid s10.below
  clear s9 s10 hsp hv6 hb hr hlv hbu hc hu S8
  go_wp2_with fail
  go_ret
  exact ⟨rfl, HA.out⟩
end Go.Proofs.Ytkkkncchinejmaa.TrL
