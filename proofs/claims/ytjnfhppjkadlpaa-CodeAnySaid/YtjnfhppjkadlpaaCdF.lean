/- Whether one of some rows is not so long (slices.ContainsFunc); codes: Encode, walked. No condition. -/
import Derived.Test.YtjnfhppjkadlpaaCdC
set_option linter.unusedSimpArgs false
set_option linter.unusedVariables false
namespace Go.Proofs.Ytjnfhppjkadlpaa.Cd
open Go Go.RowKit Go.Proofs.Ytjnfhppjkadlpaa Go.Proofs.Ytjnfhppjkadlpaa.Sp Go.Proofs.Ytjnfhppjkadlpaa.Reg Go.Proofs.Ytjnfhppjkadlpaa.Rd Go.Proofs.Ytjnfhppjkadlpaa.Obr Go.Proofs.Ytjnfhppjkadlpaa.Gf Go.Proofs.Ytjnfhppjkadlpaa.Mt
/-- Where the first is that is not so long, or -1. -/
def fn (n : Nat) : List (List UInt8) → Nat → Int
  | [], _ => -1
  | b :: d, k => if b.length = n then fn n d (k + 1) else k
theorem fn_drop (n : Nat) (d : List (List UInt8)) (k : Nat) (h : k < d.length) : fn n (d.drop k) k = if d[k].length = n then fn n (d.drop (k + 1)) (k + 1) else (k : Int) := by
  rw [List.drop_eq_getElem_cons h]; rfl
/-- Whether one is not so long. -/
def odd (n : Nat) (d : List (List UInt8)) : Bool := d.any fun b => decide (b.length ≠ n)
theorem fn_spec (n : Nat) (d : List (List UInt8)) : ∀ k, decide (0 ≤ fn n d k) = odd n d := by
  induction d with
  | nil => intro k; rfl
  | cons b d ih =>
    intro k
    unfold fn odd
    by_cases h : b.length = n
    · rw [if_pos h, ih]
      simp [odd, h]
    · rw [if_neg h]
      simp [h]
theorem odd_false {n : Nat} {d : List (List UInt8)} (h : ∀ b ∈ d, b.length = n) : odd n d = false := by
  unfold odd
  rw [List.any_eq_false]
  intro b hb
  simp [h b hb]
theorem odd_all {n : Nat} {d : List (List UInt8)} (h : odd n d = false) : ∀ b ∈ d, b.length = n := by
  unfold odd at h
  rw [List.any_eq_false] at h
  intro b hb
  simpa using h b hb
set_option maxHeartbeats 800000 in
theorem pred1 (a : Option Addr) (m c n g : Nat) (w : World) (hc : w.cell? ⟨g, 0, none⟩ = some (.int .i64 (n : Int))) : Calls Try.prog 48 #[.slice a m c, .pointer (some ⟨g, 0, none⟩)] w fun e w' => e = .returned (.bool ((m : Int) != (n : Int))) ∧ w = w' := by
  go_enter Try.func48, Try.ntmps48
  go_wp2_with fail
  go_ret
  exact ⟨rfl, rfl⟩
set_option maxHeartbeats 800000 in
theorem idx1 (A : Option Addr) (cA n g : Nat) (d : List (List UInt8)) (w : World) (h : BSS w (.slice A d.length cA) d) (hn : w.cell? ⟨g, 0, none⟩ = some (.int .i64 (n : Int))) :
    Calls Try.prog 63 #[.slice A d.length cA, .func (.func 48) #[] #[.pointer (some ⟨g, 0, none⟩)]] w fun e w' => e = .returned (.int .i64 (fn n d 0)) ∧ w = w' := by
  obtain ⟨A', c', vs, e, hr, hlv, hlc, hcm, hnone, hb⟩ := h
  cases e
  have hm : d.length ≤ 9223372036854775807 := by unfold maxLen at hcm; omega
  have HR := Lib.hid hr
  have HLV := Lib.hid hlv
  have HB := Lib.hid hb
  have HN := Lib.hid hn
  clear hr hlv hb hlc hcm hnone hn
  go_enter Try.func63, Try.ntmps63
  go_wp2_with fail
  go_loop [5, 8] (fun _ i => ∃ k : Nat, k ≤ d.length ∧ i = .int .i64 k ∧ fn n (d.drop k) k = fn n d 0) (fun _ i => d.length - (intOf i).toNat)
  case atStart => exact ⟨0, by omega, rfl, rfl⟩
  case round =>
    obtain ⟨k, hk, rfl, hf⟩ := hrel
    have HF := Lib.hid hf
    clear hf
    by_cases hlt : k < d.length
    · obtain ⟨v, hvk, a, c, rfl, -, -, -, -⟩ := HB.out k hlt
      obtain ⟨b, off, rfl, hc⟩ := HR.out.at (by have := HLV.out; rintro rfl; rw [List.length_nil] at this; omega)
      have hcell := hc k _ hvk
      have HD := Lib.hid (fn_drop n d k hlt)
      clear hc hvk HB HR HLV
      by_cases h16 : d[k].length = n
      · have h16' : ((d[k].length : Int) != (n : Int)) = false := by rw [h16]; simp
        have HE := Lib.hid h16
        clear h16
        go_wp2_with (go_at_call 48; refine (pred1 _ _ _ n g _ HN.out).mono ?_; rintro e w' ⟨rfl, rfl⟩)
        go_round
        case rel => exact ⟨k + 1, by omega, by go_num, by rw [← HF.out, HD.out, if_pos HE.out]⟩
        case measure => simp [intOf]; omega
      · have h16' : ((d[k].length : Int) != (n : Int)) = true := by simp; omega
        have HE := Lib.hid h16
        clear h16
        go_wp2_with (go_at_call 48; refine (pred1 _ _ _ n g _ HN.out).mono ?_; rintro e w' ⟨rfl, rfl⟩)
        go_ret
        exact ⟨by rw [← HF.out, HD.out, if_neg HE.out]; rfl, rfl⟩
    · obtain rfl : k = d.length := by omega
      go_wp2_with fail
      go_ret
      exact ⟨by rw [← HF.out, List.drop_length]; rfl, rfl⟩
theorem has1 (A : Option Addr) (cA n g : Nat) (d : List (List UInt8)) (w : World) (h : BSS w (.slice A d.length cA) d) (hn : w.cell? ⟨g, 0, none⟩ = some (.int .i64 (n : Int))) :
    Calls Try.prog 43 #[.slice A d.length cA, .func (.func 48) #[] #[.pointer (some ⟨g, 0, none⟩)]] w fun e w' => e = .returned (.bool (odd n d)) ∧ w = w' := by
  have H := Lib.hid h
  have HN := Lib.hid hn
  clear h hn
  go_enter Try.func43, Try.ntmps43
  go_wp2_with fail
  refine (idx1 _ _ n g _ _ H.out HN.out).mono ?_
  rintro e w' ⟨rfl, rfl⟩
  go_wp2_with fail
  go_ret
  exact ⟨by rw [← fn_spec n d 0]; rfl, rfl⟩
set_option maxHeartbeats 800000 in
theorem pred2 (a : Option Addr) (m c n g : Nat) (w : World) (hc : w.cell? ⟨g, 0, none⟩ = some (.int .i64 (n : Int))) : Calls Try.prog 64 #[.slice a m c, .pointer (some ⟨g, 0, none⟩)] w fun e w' => e = .returned (.bool ((m : Int) != (n : Int))) ∧ w = w' := by
  go_enter Try.func64, Try.ntmps64
  go_wp2_with fail
  go_ret
  exact ⟨rfl, rfl⟩
set_option maxHeartbeats 800000 in
theorem idx2 (A : Option Addr) (cA n g : Nat) (d : List (List UInt8)) (w : World) (h : BSS w (.slice A d.length cA) d) (hn : w.cell? ⟨g, 0, none⟩ = some (.int .i64 (n : Int))) :
    Calls Try.prog 63 #[.slice A d.length cA, .func (.func 64) #[] #[.pointer (some ⟨g, 0, none⟩)]] w fun e w' => e = .returned (.int .i64 (fn n d 0)) ∧ w = w' := by
  obtain ⟨A', c', vs, e, hr, hlv, hlc, hcm, hnone, hb⟩ := h
  cases e
  have hm : d.length ≤ 9223372036854775807 := by unfold maxLen at hcm; omega
  have HR := Lib.hid hr
  have HLV := Lib.hid hlv
  have HB := Lib.hid hb
  have HN := Lib.hid hn
  clear hr hlv hb hlc hcm hnone hn
  go_enter Try.func63, Try.ntmps63
  go_wp2_with fail
  go_loop [5, 8] (fun _ i => ∃ k : Nat, k ≤ d.length ∧ i = .int .i64 k ∧ fn n (d.drop k) k = fn n d 0) (fun _ i => d.length - (intOf i).toNat)
  case atStart => exact ⟨0, by omega, rfl, rfl⟩
  case round =>
    obtain ⟨k, hk, rfl, hf⟩ := hrel
    have HF := Lib.hid hf
    clear hf
    by_cases hlt : k < d.length
    · obtain ⟨v, hvk, a, c, rfl, -, -, -, -⟩ := HB.out k hlt
      obtain ⟨b, off, rfl, hc⟩ := HR.out.at (by have := HLV.out; rintro rfl; rw [List.length_nil] at this; omega)
      have hcell := hc k _ hvk
      have HD := Lib.hid (fn_drop n d k hlt)
      clear hc hvk HB HR HLV
      by_cases h16 : d[k].length = n
      · have h16' : ((d[k].length : Int) != (n : Int)) = false := by rw [h16]; simp
        have HE := Lib.hid h16
        clear h16
        go_wp2_with (go_at_call 64; refine (pred2 _ _ _ n g _ HN.out).mono ?_; rintro e w' ⟨rfl, rfl⟩)
        go_round
        case rel => exact ⟨k + 1, by omega, by go_num, by rw [← HF.out, HD.out, if_pos HE.out]⟩
        case measure => simp [intOf]; omega
      · have h16' : ((d[k].length : Int) != (n : Int)) = true := by simp; omega
        have HE := Lib.hid h16
        clear h16
        go_wp2_with (go_at_call 64; refine (pred2 _ _ _ n g _ HN.out).mono ?_; rintro e w' ⟨rfl, rfl⟩)
        go_ret
        exact ⟨by rw [← HF.out, HD.out, if_neg HE.out]; rfl, rfl⟩
    · obtain rfl : k = d.length := by omega
      go_wp2_with fail
      go_ret
      exact ⟨by rw [← HF.out, List.drop_length]; rfl, rfl⟩
theorem has2 (A : Option Addr) (cA n g : Nat) (d : List (List UInt8)) (w : World) (h : BSS w (.slice A d.length cA) d) (hn : w.cell? ⟨g, 0, none⟩ = some (.int .i64 (n : Int))) :
    Calls Try.prog 43 #[.slice A d.length cA, .func (.func 64) #[] #[.pointer (some ⟨g, 0, none⟩)]] w fun e w' => e = .returned (.bool (odd n d)) ∧ w = w' := by
  have H := Lib.hid h
  have HN := Lib.hid hn
  clear h hn
  go_enter Try.func43, Try.ntmps43
  go_wp2_with fail
  refine (idx2 _ _ n g _ _ H.out HN.out).mono ?_
  rintro e w' ⟨rfl, rfl⟩
  go_wp2_with fail
  go_ret
  exact ⟨by rw [← fn_spec n d 0]; rfl, rfl⟩
set_option maxHeartbeats 800000 in
theorem pred3 (a : Option Addr) (m c n g : Nat) (w : World) (hc : w.cell? ⟨g, 0, none⟩ = some (.int .i64 (n : Int))) : Calls Try.prog 44 #[.slice a m c, .pointer (some ⟨g, 0, none⟩)] w fun e w' => e = .returned (.bool ((m : Int) != (n : Int))) ∧ w = w' := by
  go_enter Try.func44, Try.ntmps44
  go_wp2_with fail
  go_ret
  exact ⟨rfl, rfl⟩
set_option maxHeartbeats 800000 in
theorem idx3 (A : Option Addr) (cA n g : Nat) (d : List (List UInt8)) (w : World) (h : BSS w (.slice A d.length cA) d) (hn : w.cell? ⟨g, 0, none⟩ = some (.int .i64 (n : Int))) :
    Calls Try.prog 63 #[.slice A d.length cA, .func (.func 44) #[] #[.pointer (some ⟨g, 0, none⟩)]] w fun e w' => e = .returned (.int .i64 (fn n d 0)) ∧ w = w' := by
  obtain ⟨A', c', vs, e, hr, hlv, hlc, hcm, hnone, hb⟩ := h
  cases e
  have hm : d.length ≤ 9223372036854775807 := by unfold maxLen at hcm; omega
  have HR := Lib.hid hr
  have HLV := Lib.hid hlv
  have HB := Lib.hid hb
  have HN := Lib.hid hn
  clear hr hlv hb hlc hcm hnone hn
  go_enter Try.func63, Try.ntmps63
  go_wp2_with fail
  go_loop [5, 8] (fun _ i => ∃ k : Nat, k ≤ d.length ∧ i = .int .i64 k ∧ fn n (d.drop k) k = fn n d 0) (fun _ i => d.length - (intOf i).toNat)
  case atStart => exact ⟨0, by omega, rfl, rfl⟩
  case round =>
    obtain ⟨k, hk, rfl, hf⟩ := hrel
    have HF := Lib.hid hf
    clear hf
    by_cases hlt : k < d.length
    · obtain ⟨v, hvk, a, c, rfl, -, -, -, -⟩ := HB.out k hlt
      obtain ⟨b, off, rfl, hc⟩ := HR.out.at (by have := HLV.out; rintro rfl; rw [List.length_nil] at this; omega)
      have hcell := hc k _ hvk
      have HD := Lib.hid (fn_drop n d k hlt)
      clear hc hvk HB HR HLV
      by_cases h16 : d[k].length = n
      · have h16' : ((d[k].length : Int) != (n : Int)) = false := by rw [h16]; simp
        have HE := Lib.hid h16
        clear h16
        go_wp2_with (go_at_call 44; refine (pred3 _ _ _ n g _ HN.out).mono ?_; rintro e w' ⟨rfl, rfl⟩)
        go_round
        case rel => exact ⟨k + 1, by omega, by go_num, by rw [← HF.out, HD.out, if_pos HE.out]⟩
        case measure => simp [intOf]; omega
      · have h16' : ((d[k].length : Int) != (n : Int)) = true := by simp; omega
        have HE := Lib.hid h16
        clear h16
        go_wp2_with (go_at_call 44; refine (pred3 _ _ _ n g _ HN.out).mono ?_; rintro e w' ⟨rfl, rfl⟩)
        go_ret
        exact ⟨by rw [← HF.out, HD.out, if_neg HE.out]; rfl, rfl⟩
    · obtain rfl : k = d.length := by omega
      go_wp2_with fail
      go_ret
      exact ⟨by rw [← HF.out, List.drop_length]; rfl, rfl⟩
theorem has3 (A : Option Addr) (cA n g : Nat) (d : List (List UInt8)) (w : World) (h : BSS w (.slice A d.length cA) d) (hn : w.cell? ⟨g, 0, none⟩ = some (.int .i64 (n : Int))) :
    Calls Try.prog 43 #[.slice A d.length cA, .func (.func 44) #[] #[.pointer (some ⟨g, 0, none⟩)]] w fun e w' => e = .returned (.bool (odd n d)) ∧ w = w' := by
  have H := Lib.hid h
  have HN := Lib.hid hn
  clear h hn
  go_enter Try.func43, Try.ntmps43
  go_wp2_with fail
  refine (idx3 _ _ n g _ _ H.out HN.out).mono ?_
  rintro e w' ⟨rfl, rfl⟩
  go_wp2_with fail
  go_ret
  exact ⟨by rw [← fn_spec n d 0]; rfl, rfl⟩
/-- The first k parities. -/
def ek (xs ys : List UInt8) (n : Nat) (d : List (List UInt8)) (k : Nat) : List (List UInt8) := (List.range k).map fun j => par xs ys j n d
theorem ek_len (xs ys : List UInt8) (n : Nat) (d : List (List UInt8)) (k : Nat) : (ek xs ys n d k).length = k := by simp [ek]
theorem ek_succ (xs ys : List UInt8) (n : Nat) (d : List (List UInt8)) (k : Nat) : ek xs ys n d (k + 1) = ek xs ys n d k ++ [par xs ys k n d] := by simp [ek, List.range_succ]
section
variable {B : Nat} {w0 : World} {R : HP}
set_option maxRecDepth 100000 in
set_option maxHeartbeats 8000000 in
theorem encode_calls (p fb : Nat) (xs ys : List UInt8) (n : Nat) (v : Value) (d : List (List UInt8)) (hx : 1 ≤ xs.length ∧ xs.length ≤ 14) (hy : ys.length ≤ 4) (hk : d.length = xs.length) (hn : n ≤ 64) (hd : ∀ i (h : i < d.length), d[i].length = n) (w : World)
    (hr : BRd B w0 R v d) (s : St B w0 w (fx fb * (cd p fb xs ys * R))) :
    Calls Try.prog 22 #[pp p, v] w fun e w' => ∃ v' vs, e = .returned (.tuple #[v', .int .i64 0]) ∧ vs.length = ys.length ∧ NN vs ∧ St B w0 w' (ob v' vs (enc xs ys n d) * (fx fb * (cd p fb xs ys * R))) := by
  have HBR := Lib.hid hr
  obtain ⟨A, c, vs, rfl, hvl, hlc, hcm, hnil, hA, hu⟩ := hr
  obtain ⟨a1, c1, a2, c2, s1⟩ := cd_open (s.eq (sep_left_comm _ _ _))
  obtain ⟨k0, k1, k2⟩ := cdo_cells s1
  obtain ⟨u0, hu1, hu2⟩ := hu 0 (by omega)
  have hA0 := hA w (fx fb * cd p fb xs ys) (s.eq (by ac_rfl))
  obtain ⟨b0, o0, rfl, hc0⟩ := hA0.at (by rintro rfl; simp at hu1)
  have c0 := hc0 0 u0 hu1
  rw [Nat.add_zero] at c0
  obtain ⟨a5, c5, rfl, -⟩ := hu2 w (fx fb * cd p fb xs ys) (s.eq (by ac_rfl))
  have hd0 := hd 0 (by omega)
  rw [hd0] at c0
  have HD := Lib.hid hd
  have HS := Lib.hid s
  have HX := Lib.hid hx
  clear hA hu hd hA0 hc0 hu1 hu2 hd0 s1 s hx
  rw [hk] at HBR hlc ⊢
  have HK := Lib.hid hk
  clear hk hvl
  have hx0 : (0 : Int) < (xs.length : Int) := by have := HX.out; omega
  have hnI : ¬ (64 : Int) < (n : Int) := by omega
  go_enter Try.func22, Try.ntmps22
  go_wp2_with fail
  have s2 := HS.out.alloc (.cells #[.int .i64 (n : Int)] 3)
  have hb := HBR.out.bss (s2.eq (Q := (pts w.heap.size (.cells #[.int .i64 (n : Int)] 3) * (fx fb * cd p fb xs ys)) * R) (by ac_rfl))
  have q := has1 (some ⟨b0, o0, none⟩) c n w.heap.size d _ (by rw [HK.out]; exact hb) (s2.cell 0)
  rw [HK.out, odd_false (n := n) (d := d) (fun b hb => by obtain ⟨i, hi, rfl⟩ := List.getElem_of_mem hb; exact HD.out i hi)] at q
  refine q.mono ?_
  rintro e w2 ⟨rfl, rfl⟩
  generalize w.heap.size = g at *
  generalize w.alloc (.cells #[.int .i64 (n : Int)] 3) = w2 at *
  clear q hb HS
  have c6 := s2.cell 0
  simp at c6
  have S2 := Lib.hid (s2.rowNil 32 1)
  have t2 := s2.eq (Q := cd p fb xs ys * (fx fb * (pts g (.cells #[.int .i64 (n : Int)] 3) * R))) (by ac_rfl)
  obtain ⟨b1, e1, b2, e2, t3⟩ := cd_open t2
  clear k0 k1 k2
  obtain ⟨k0, k1, k2⟩ := cdo_cells t3
  clear t2 t3 s2
  go_wp2_with fail
  go_loopw [7, 33] (fun x i wr => ∃ (k : Nat) (vs : List Value), k ≤ ys.length ∧ i = .int .i64 (k : Int) ∧ vs.length = k ∧ NN vs ∧ St B w0 wr (row 32 1 x k vs * (rows 5 vs (ek xs ys n d k) * (pts g (.cells #[.int .i64 (n : Int)] 3) * (fx fb * (cd p fb xs ys * R)))))) (fun _ i _ => ys.length - (intOf i).toNat)
  case atStart => exact ⟨0, [], Nat.zero_le _, rfl, rfl, NN.nil, S2.out.eq (by show _ = row 32 1 (.slice none 0 0) 0 [] * (emp * _); rw [emp_sep])⟩
  case round =>
    obtain ⟨k, vs, hkl, rfl, hvs, hnn, s3⟩ := hrel
    clear S2
    obtain ⟨a7, c7, rfl, -⟩ := s3.rowSlice
    have HVS := Lib.hid (And.intro hvs hnn)
    clear hvs hnn
    by_cases hlt : k < ys.length
    · have hltI : (k : Int) < (ys.length : Int) := by omega
      have c6 := (s3.eq (Q := pts g (.cells #[.int .i64 (n : Int)] 3) * (row 32 1 (.slice a7 k c7) k vs * (rows 5 vs (ek xs ys n d k) * (fx fb * (cd p fb xs ys * R))))) (by ac_rfl)).cell 0
      simp at c6
      have S3 := Lib.hid s3
      clear s3
      go_wp2_with fail
      refine (parity_calls p fb xs ys k n (.slice (some ⟨b0, o0, none⟩) xs.length c) d hlt HK.out (by have := HX.out; omega) (by omega) HD.out wr (R := row 32 1 (.slice a7 k c7) k vs * (rows 5 vs (ek xs ys n d k) * (pts g (.cells #[.int .i64 (n : Int)] 3) * R))) (HBR.out.of (X := row 32 1 (.slice a7 k c7) k vs * (rows 5 vs (ek xs ys n d k) * pts g (.cells #[.int .i64 (n : Int)] 3))) (by ac_rfl)) (S3.out.eq (by ac_rfl))).mono ?_
      rintro e w4 ⟨g4, rfl, s4⟩
      clear S3
      rw [par_len] at s4 ⊢
      have HK2 := Lib.hid (ek_succ xs ys n d k)
      have HLN := Lib.hid (par_len xs ys k n d)
      generalize par xs ys k n d = P at *
      generalize ek xs ys n d k = E at *
      have S4 := Lib.hid ((s4.alloc (.cells #[.slice (some ⟨g4, 0, none⟩) n n] 32)).eq (Q := row 32 1 (.slice a7 k c7) k vs * (pts w4.heap.size (.cells #[.slice (some ⟨g4, 0, none⟩) n n] 32) * (rows 5 vs E * (row 5 1 (.slice (some ⟨g4, 0, none⟩) n n) n (bvs P) * (pts g (.cells #[.int .i64 (n : Int)] 3) * (fx fb * (cd p fb xs ys * R))))))) (by ac_rfl))
      have hrd := Lib.hid (Rd.new w4 #[.slice (some ⟨g4, 0, none⟩) n n] 32)
      clear s4
      go_wp2_with (at_builtin; go_must (refine wpl_append rfl _ _ rfl tBB S4.out (some ⟨w4.heap.size, 0, none⟩) 1 1 [.slice (some ⟨g4, 0, none⟩) n n] rfl rfl hrd.out (fun e => by cases e) (by simp) (by simp [Value.oneCell']) (by unfold maxLen; omega) (by omega) ?_); intro v5 w5 s5 _; have S5 := Lib.hid ((s5.eq (sep_left_comm _ _ _)).right); clear s5 S4 hrd)
      go_roundw
      case rel =>
        refine ⟨k + 1, vs ++ [.slice (some ⟨g4, 0, none⟩) n n], by omega, by go_num, by simp [HVS.out.1], HVS.out.2.snoc ⟨_, _, _, rfl⟩, ?_⟩
        rw [HK2.out, rows_snoc _ _ _ _ _ (by rw [HVS.out.1]; have := congrArg List.length HK2.out; rw [ek_len, List.length_append] at this; simpa using this), HLN.out]
        exact S5.out.eq (by ac_rfl)
      case measure => simp [intOf]; omega
    · obtain rfl : k = ys.length := by omega
      have S3 := Lib.hid s3
      clear s3
      go_wp2_with fail
      go_ret2
      refine ⟨_, vs, rfl, HVS.out.1, HVS.out.2, ?_⟩
      have s4 := S3.out.eq (Q := pts g (.cells #[.int .i64 (n : Int)] 3) * (ob (.slice a7 ys.length c7) vs (ek xs ys n d ys.length) * (fx fb * (cd p fb xs ys * R)))) (by unfold ob; rw [ek_len]; ac_rfl)
      exact s4.right
set_option maxRecDepth 100000 in
set_option maxHeartbeats 8000000 in
theorem encode_short (p fb : Nat) (xs ys : List UInt8) (a : Option Addr) (m c : Nat) (hk : m ≠ xs.length) (w : World) (s : St B w0 w (cd p fb xs ys * R)) :
    Calls Try.prog 22 #[pp p, .slice a m c] w (RetG B w0 (cd p fb xs ys * R) (.tuple #[.slice none 0 0, .int .i64 1])) := by
  obtain ⟨a1, c1, a2, c2, s1⟩ := cd_open s
  obtain ⟨k0, k1, k2⟩ := cdo_cells s1
  have hkI : ((m : Int) == (xs.length : Int)) = false := by simp only [beq_eq_false_iff_ne]; omega
  have S := Lib.hid s
  clear s
  clear s1 hk
  go_enter Try.func22, Try.ntmps22
  go_wp2_with fail
  go_ret2
  exact ⟨rfl, S.out⟩
set_option maxRecDepth 100000 in
set_option maxHeartbeats 8000000 in
theorem encode_long (p fb : Nat) (xs ys : List UInt8) (v : Value) (d : List (List UInt8)) (hx : 1 ≤ xs.length) (hk : d.length = xs.length) (hn : 64 < (d.getD 0 []).length) (w : World)
    (hr : BRd B w0 R v d) (s : St B w0 w (fx fb * (cd p fb xs ys * R))) :
    Calls Try.prog 22 #[pp p, v] w (RetG B w0 (fx fb * (cd p fb xs ys * R)) (.tuple #[.slice none 0 0, .int .i64 1])) := by
  obtain ⟨A, c, vs, rfl, hvl, hlc, hcm, hnil, hA, hu⟩ := hr
  obtain ⟨a1, c1, a2, c2, s1⟩ := cd_open (s.eq (sep_left_comm _ _ _))
  obtain ⟨k0, k1, k2⟩ := cdo_cells s1
  obtain ⟨u0, hu1, hu2⟩ := hu 0 (by omega)
  have hA0 := hA w (fx fb * cd p fb xs ys) (s.eq (by ac_rfl))
  obtain ⟨b0, o0, rfl, hc0⟩ := hA0.at (by rintro rfl; simp at hu1)
  have c0 := hc0 0 u0 hu1
  rw [Nat.add_zero] at c0
  obtain ⟨a5, c5, rfl, h5⟩ := hu2 w (fx fb * cd p fb xs ys) (s.eq (by ac_rfl))
  have h5m : d[0].length ≤ 9223372036854775807 := by have := h5.1; have := h5.2.1; unfold maxLen at this; omega
  rw [show d.getD 0 [] = d[0] from by simp [List.getD, show 0 < d.length by omega]] at hn
  generalize d[0].length = n at *
  have HS := Lib.hid s
  have hx0 : (0 : Int) < (xs.length : Int) := by omega
  have hnI : (64 : Int) < (n : Int) := by omega
  rw [hk]
  clear hA hu hA0 hc0 hu1 hu2 s1 s hk h5 hvl hlc
  go_enter Try.func22, Try.ntmps22
  go_wp2_with fail
  have s2 := HS.out.alloc (.cells #[.int .i64 (n : Int)] 3)
  go_ret2
  exact ⟨rfl, s2.right⟩
end
end Go.Proofs.Ytjnfhppjkadlpaa.Cd
