/- The code laws' awake, walked. No condition. -/
import Derived.Test.YtjnfhppjkadlpaaCdJ
import Derived.Test.YtjnfhppjkadlpaaCdF
import Derived.Test.YtjnfhppjkadlpaaCdP
set_option linter.unusedSimpArgs false
set_option linter.unusedVariables false
namespace Go.Proofs.Ytjnfhppjkadlpaa.Cd
open Go Go.RowKit Go.Proofs.Ytjnfhppjkadlpaa Go.Proofs.Ytjnfhppjkadlpaa.Sp Go.Proofs.Ytjnfhppjkadlpaa.Reg Go.Proofs.Ytjnfhppjkadlpaa.Rd Go.Proofs.Ytjnfhppjkadlpaa.Obr Go.Proofs.Ytjnfhppjkadlpaa.Gf Go.Proofs.Ytjnfhppjkadlpaa.Mt
section
variable {B : Nat} {w0 : World} {R : HP}
theorem good_a : Cd.Good [0, 1] [2] := ⟨by decide, by decide, by decide, by decide, by decide⟩
theorem enc_a : enc [0, 1] [2] 1 [[1], [0]] = [[142]] := by decide +kernel
theorem of_a : Of [0, 1] [2] 1 [[1], [0]] [none, some [0], some [142]] where
  dl := rfl
  dn := by decide
  ll := rfl
  ok := fun s b h => by
    have e : all [0, 1] [2] 1 [[1], [0]] = [[1], [0], [142]] := by unfold all; rw [enc_a]; rfl
    rw [e]
    match s, h with
    | 0, h => cases h
    | 1, h => cases h; rfl
    | 2, h => cases h; rfl
    | s + 3, h => cases h
theorem alloc_size (w : World) (o : Obj) : (w.alloc o).heap.size = w.heap.size + 1 := by simp
/-- A literal of shards. -/
theorem srd_pts {g n : Nat} {C : Array Value} {t : TypeId} {f : Nat × Nat} {vs : List Value} (hC : C = vs.toArray) (l : Shs) (hn : n = l.length) (hl : vs.length = l.length) (hm : l.length ≤ maxLen) (h : ∀ i (hi : i < l.length), ∃ u, vs[i]? = some u ∧ SR B w0 R u l[i]) :
    SRd B w0 (pts g (.cells C t f) * R) (.slice (some ⟨g, 0, none⟩) n n) l := by
  subst hC
  subst hn
  refine ⟨_, _, vs, rfl, hl, Nat.le_refl _, hm, fun e => (by cases e), fun w H s => ?_, fun i hi => ?_⟩
  · have q := (s.eq (Q := pts g (.cells vs.toArray t f) * (H * R)) (by ac_rfl)).rd 0 vs.length
    simpa using q
  · obtain ⟨u, e1, e2⟩ := h i hi
    exact ⟨u, e1, SR.of rfl e2⟩
theorem sr_lit {g n : Nat} {C : Array Value} {t : TypeId} {f : Nat × Nat} {b : List UInt8} {X : HP} (hC : C = (bvs b).toArray) (hn : n = b.length) (hm : b.length ≤ maxLen) (e : R = X * pts g (.cells C t f)) : SR B w0 R (.slice (some ⟨g, 0, none⟩) n n) (some b) :=
  ⟨⟨_, _, _, _, rfl⟩, Reads.of e (reads_lit hC hn hm)⟩
theorem sr_nil : SR B w0 R (.slice none 0 0) none := rfl
/-- The first shard. -/
theorem ob_at {v : Value} {vs : List Value} {l : List (List UInt8)} {w : World} (i : Nat) (hi : i < l.length) (hl : vs.length = l.length) (s : St B w0 w (ob v vs l * R)) : ∃ g c u, v = .slice (some ⟨g, 0, none⟩) l.length c ∧ w.cell? ⟨g, i, none⟩ = some u ∧ BS w u l[i] := by
  obtain ⟨g, c, rfl, h1, h2, h3, h4⟩ := (ob_row s).rowCells (by omega)
  obtain ⟨u, e1, e2⟩ := (ob_rows s).rowsBS _ _ hl i hi
  exact ⟨g, c, u, rfl, by rw [h4 i (by omega)]; exact e1, e2⟩
set_option maxRecDepth 100000 in
set_option maxHeartbeats 16000000 in
theorem awake4_calls (w : World) (s : St B w0 w R) : Calls Try.prog 29 #[] w (RetG B w0 R (.bool true)) := by
  have S := Lib.hid s
  clear s
  go_enter Try.func29, Try.ntmps29
  go_wp2_with fail
  refine (newx w S.out).mono ?_
  rintro e w1 ⟨b, rfl, s1⟩
  clear S
  have S1 := Lib.hid s1
  clear s1
  go_wp2_with fail
  have s2 := (S1.out.alloc (.cells #[.int .u8 0, .int .u8 1] 5)).alloc (.cells #[.int .u8 2] 5)
  rw [alloc_size] at s2
  generalize ((w1.alloc (.cells #[.int .u8 0, .int .u8 1] 5)).alloc (.cells #[.int .u8 2] 5)) = w2 at *
  generalize w1.heap.size = g at *
  refine (new_good b (some ⟨g, 0, none⟩) (some ⟨g + 1, 0, none⟩) 2 1 [0, 1] [2] good_a w2 (fun w' H s => reads_lit (C := #[.int .u8 0, .int .u8 1]) (t := 5) (f := (0, 0)) (g := g) (n := 2) (bs := [0, 1]) rfl rfl (by unfold maxLen; decide) w' (H * (pts (g + 1) (.cells #[.int .u8 2] 5) * (fx b * R))) (s.eq (by ac_rfl))) (fun w' H s => reads_lit (C := #[.int .u8 2]) (t := 5) (f := (0, 0)) (g := g + 1) (n := 1) (bs := [2]) rfl rfl (by unfold maxLen; decide) w' (H * (pts g (.cells #[.int .u8 0, .int .u8 1] 5) * (fx b * R))) (s.eq (by ac_rfl))) s2).mono ?_
  rintro e w3 ⟨p, rfl, s3⟩
  have S3 := Lib.hid (s3.eq (Q := (pts (g + 1) (.cells #[.int .u8 2] 5) * pts g (.cells #[.int .u8 0, .int .u8 1] 5)) * (fx b * (cd p b [0, 1] [2] * R))) (by ac_rfl)).right
  clear s2 s3 S1
  go_wp2_with fail
  have s4 := ((S3.out.alloc (.cells #[.int .u8 1] 5)).alloc (.cells #[.int .u8 0] 5)).alloc (.cells #[.slice (some ⟨w3.heap.size, 0, none⟩) 1 1, .slice (some ⟨w3.heap.size + 1, 0, none⟩) 1 1] 32)
  rw [alloc_size, alloc_size] at s4
  generalize ((w3.alloc (.cells #[.int .u8 1] 5)).alloc (.cells #[.int .u8 0] 5)).alloc (.cells #[.slice (some ⟨w3.heap.size, 0, none⟩) 1 1, .slice (some ⟨w3.heap.size + 1, 0, none⟩) 1 1] 32) = w4 at *
  generalize w3.heap.size = h at *
  clear S3
  have hb4 : BRd B w0 (pts (h + 1 + 1) (.cells #[.slice (some ⟨h, 0, none⟩) 1 1, .slice (some ⟨h + 1, 0, none⟩) 1 1] 32) * (pts (h + 1) (.cells #[.int .u8 0] 5) * (pts h (.cells #[.int .u8 1] 5) * R))) (.slice (some ⟨h + 1 + 1, 0, none⟩) 2 2) [[1], [0]] :=
    (srd_pts (vs := [.slice (some ⟨h, 0, none⟩) 1 1, .slice (some ⟨h + 1, 0, none⟩) 1 1]) rfl [some [1], some [0]] rfl rfl (by unfold maxLen; decide) (fun i hi => match i, hi with
      | 0, _ => ⟨_, rfl, sr_lit (X := pts (h + 1) (.cells #[.int .u8 0] 5) * R) rfl rfl (by unfold maxLen; decide) (by ac_rfl)⟩
      | 1, _ => ⟨_, rfl, sr_lit (X := pts h (.cells #[.int .u8 1] 5) * R) rfl rfl (by unfold maxLen; decide) (by ac_rfl)⟩
      | i + 2, hi => absurd hi (by simp))).brd
  refine (encode_calls p b [0, 1] [2] 1 (.slice (some ⟨h + 1 + 1, 0, none⟩) 2 2) [[1], [0]] (by decide) (by decide) rfl (by omega) (by decide) w4 hb4 (s4.eq (by ac_rfl))).mono ?_
  rintro e w5 ⟨v5, vs5, rfl, hvs5, -, s5⟩
  rw [enc_a] at s5
  obtain ⟨g5, c5, u5, rfl, -, -⟩ := ob_at 0 (by decide) hvs5 s5
  have hvs5' : vs5.length = 1 := hvs5
  have S5 := Lib.hid (s5.eq (Q := pts (h + 1 + 1) (.cells #[.slice (some ⟨h, 0, none⟩) 1 1, .slice (some ⟨h + 1, 0, none⟩) 1 1] 32) * (pts (h + 1) (.cells #[.int .u8 0] 5) * (pts h (.cells #[.int .u8 1] 5) * (fx b * (cd p b [0, 1] [2] * (ob (.slice (some ⟨g5, 0, none⟩) [[(142 : UInt8)]].length c5) vs5 [[142]] * R)))))) (by ac_rfl)).right.right.right
  have HV5 := Lib.hid hvs5'
  clear s5 s4 hb4 hvs5 hvs5'
  go_wp2_with fail
  have s6 := ((S5.out.alloc (.cells #[.int .u8 0] 5)).alloc (.cells #[.int .u8 142] 5)).alloc (.cells #[.slice none 0 0, .slice (some ⟨w5.heap.size, 0, none⟩) 1 1, .slice (some ⟨w5.heap.size + 1, 0, none⟩) 1 1] 32)
  rw [alloc_size, alloc_size] at s6
  generalize ((w5.alloc (.cells #[.int .u8 0] 5)).alloc (.cells #[.int .u8 142] 5)).alloc (.cells #[.slice none 0 0, .slice (some ⟨w5.heap.size, 0, none⟩) 1 1, .slice (some ⟨w5.heap.size + 1, 0, none⟩) 1 1] 32) = w6 at *
  generalize w5.heap.size = h6 at *
  clear S5
  have hb6 : SRd B w0 (pts (h6 + 1 + 1) (.cells #[.slice none 0 0, .slice (some ⟨h6, 0, none⟩) 1 1, .slice (some ⟨h6 + 1, 0, none⟩) 1 1] 32) * (pts (h6 + 1) (.cells #[.int .u8 142] 5) * (pts h6 (.cells #[.int .u8 0] 5) * (ob (.slice (some ⟨g5, 0, none⟩) [[(142 : UInt8)]].length c5) vs5 [[142]] * R)))) (.slice (some ⟨h6 + 1 + 1, 0, none⟩) 3 3) [none, some [0], some [142]] :=
    srd_pts (vs := [.slice none 0 0, .slice (some ⟨h6, 0, none⟩) 1 1, .slice (some ⟨h6 + 1, 0, none⟩) 1 1]) rfl [none, some [0], some [142]] rfl rfl (by unfold maxLen; decide) (fun i hi => match i, hi with
      | 0, _ => ⟨_, rfl, sr_nil⟩
      | 1, _ => ⟨_, rfl, sr_lit (X := pts (h6 + 1) (.cells #[.int .u8 142] 5) * (ob (.slice (some ⟨g5, 0, none⟩) [[(142 : UInt8)]].length c5) vs5 [[142]] * R)) rfl rfl (by unfold maxLen; decide) (by ac_rfl)⟩
      | 2, _ => ⟨_, rfl, sr_lit (X := pts h6 (.cells #[.int .u8 0] 5) * (ob (.slice (some ⟨g5, 0, none⟩) [[(142 : UInt8)]].length c5) vs5 [[142]] * R)) rfl rfl (by unfold maxLen; decide) (by ac_rfl)⟩
      | i + 3, hi => absurd hi (by simp))
  refine (decode_ok p b [0, 1] [2] good_a (.slice (some ⟨h6 + 1 + 1, 0, none⟩) 3 3) [none, some [0], some [142]] rfl (by decide) 1 (by decide) (by omega) of_a.len (by decide) w6 hb6 (s6.eq (by ac_rfl))).mono ?_
  rintro e w7 ⟨A, Bk, v7, vs7, hgj, rfl, hvs7, -, s7⟩
  rw [dec_right of_a (by decide) hgj, show all [0, 1] [2] 1 [[1], [0]] = [[1], [0], [142]] from by unfold all; rw [enc_a]; rfl] at s7
  obtain ⟨g7, c7, u7, rfl, -, -⟩ := ob_at 0 (by decide) hvs7 s7
  have HV7 := Lib.hid (show vs7.length = 3 from hvs7)
  have S7 := Lib.hid (s7.eq (Q := pts (h6 + 1 + 1) (.cells #[.slice none 0 0, .slice (some ⟨h6, 0, none⟩) 1 1, .slice (some ⟨h6 + 1, 0, none⟩) 1 1] 32) * (pts (h6 + 1) (.cells #[.int .u8 142] 5) * (pts h6 (.cells #[.int .u8 0] 5) * (fx b * (cd p b [0, 1] [2] * (ob (.slice (some ⟨g5, 0, none⟩) [[(142 : UInt8)]].length c5) vs5 [[142]] * (ob (.slice (some ⟨g7, 0, none⟩) [[(1 : UInt8)], [0], [142]].length c7) vs7 [[1], [0], [142]] * R))))))) (by ac_rfl)).right.right.right
  clear s7 s6 hb6 hvs7 hgj
  go_wp2_with fail
  have s8 := (S7.out.alloc (.cells #[.int .u8 142] 5)).alloc (.cells #[.slice none 0 0, .slice none 0 0, .slice (some ⟨w7.heap.size, 0, none⟩) 1 1] 32)
  rw [alloc_size] at s8
  generalize (w7.alloc (.cells #[.int .u8 142] 5)).alloc (.cells #[.slice none 0 0, .slice none 0 0, .slice (some ⟨w7.heap.size, 0, none⟩) 1 1] 32) = w8 at *
  generalize w7.heap.size = h8 at *
  clear S7
  generalize hY : (ob (.slice (some ⟨g5, 0, none⟩) [[(142 : UInt8)]].length c5) vs5 [[142]] * (ob (.slice (some ⟨g7, 0, none⟩) [[(1 : UInt8)], [0], [142]].length c7) vs7 [[1], [0], [142]] * R) : HP) = Y at s8
  have hb8 : SRd B w0 (pts (h8 + 1) (.cells #[.slice none 0 0, .slice none 0 0, .slice (some ⟨h8, 0, none⟩) 1 1] 32) * (pts h8 (.cells #[.int .u8 142] 5) * (fx b * Y))) (.slice (some ⟨h8 + 1, 0, none⟩) 3 3) [none, none, some [142]] :=
    srd_pts (vs := [.slice none 0 0, .slice none 0 0, .slice (some ⟨h8, 0, none⟩) 1 1]) rfl [none, none, some [142]] rfl rfl (by unfold maxLen; decide) (fun i hi => match i, hi with
      | 0, _ => ⟨_, rfl, sr_nil⟩
      | 1, _ => ⟨_, rfl, sr_nil⟩
      | 2, _ => ⟨_, rfl, sr_lit (X := fx b * Y) rfl rfl (by unfold maxLen; decide) (by ac_rfl)⟩
      | i + 3, hi => absurd hi (by simp))
  refine (decode_lost p b [0, 1] [2] (by decide) (by decide) (.slice (some ⟨h8 + 1, 0, none⟩) 3 3) [none, none, some [142]] rfl (by decide) (by decide) w8 hb8 (s8.eq (by ac_rfl))).mono ?_
  rintro e w9 ⟨rfl, s9⟩
  subst hY
  have s10 := s9.eq (Q := ob (.slice (some ⟨g5, 0, none⟩) [[(142 : UInt8)]].length c5) vs5 [[142]] * (ob (.slice (some ⟨g7, 0, none⟩) [[(1 : UInt8)], [0], [142]].length c7) vs7 [[1], [0], [142]] * ((cd p b [0, 1] [2] * (pts (h8 + 1) (.cells #[.slice none 0 0, .slice none 0 0, .slice (some ⟨h8, 0, none⟩) 1 1] 32) * (pts h8 (.cells #[.int .u8 142] 5) * fx b))) * R))) (by ac_rfl)
  obtain ⟨g5', c5', u5', e5, k5, b5⟩ := ob_at 0 (by decide) HV5.out s10
  cases e5
  obtain ⟨g7', c7', u7', e7, k7, b7⟩ := ob_at 0 (by decide) HV7.out s10.right
  cases e7
  obtain ⟨a5, d5, rfl, -⟩ := id b5
  obtain ⟨a7, d7, rfl, -⟩ := id b7
  have q5 : (convert 32 9 (.slice a5 1 d5)).run Try.prog w9 = .ok (str [142]) w9 := run_str Try.underlying32 Try.underlying5 Try.underlying9 b5
  have q7 : (convert 32 9 (.slice a7 1 d7)).run Try.prog w9 = .ok (str [1]) w9 := run_str Try.underlying32 Try.underlying5 Try.underlying9 b7
  clear b5 b7
  have S10 := Lib.hid s10
  clear s10 s9 s8 hb8
  simp only [List.length_cons, List.length_nil] at *
  go_wp2_with fail
  go_ret
  exact ⟨rfl, S10.out.right.right.right⟩
end
end Go.Proofs.Ytjnfhppjkadlpaa.Cd
