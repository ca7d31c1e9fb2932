/- The walks of the check's functions. -/
import Derived.Test.YtmilfilmhkpjoaaSp
import Derived.Test.YtmilfilmhkpjoaaCrcM
import Derived.Test.YtmilfilmhkpjoaaReg
import Derived.Test.YtmilfilmhkpjoaaRows
import Derived.Lib.SlBytesConst
namespace Go.Proofs.Ytmilfilmhkpjoaa.CrcW
open Go Go.RowKit Go.Proofs.Ytmilfilmhkpjoaa Go.Proofs.Ytmilfilmhkpjoaa.Sp Go.Proofs.Ytmilfilmhkpjoaa.CrcM Go.Proofs.Ytmilfilmhkpjoaa.Reg

theorem tB : SlT Try.prog 37 5 1 1 (.int .u8 0) := ⟨Try.underlying37, info_parts (by kernel_rfl), rfl, by decide⟩
theorem mixed : Try.prog.follows .mixedOrders = true := by kernel_rfl
abbrev rv (x : BitVec 32) : Value := .int .u32 (x.toNat : Int)

theorem start_int (r : BitVec 32) (c : UInt8) : Go.bits .xor .u32 (r.toNat : Int) ((c.toNat : Int) % 4294967296) = ((r ^^^ ext c).toNat : Int) := by
  have := c.toNat_lt
  have e : ((c.toNat : Int) % 4294967296) = ((ext c).toNat : Int) := by rw [ext_toNat]; omega
  rw [e, xor_int]
set_option maxHeartbeats 400000 in
theorem step_calls (r : BitVec 32) (c : UInt8) (w : World) :
    Calls Try.prog 95 #[rv r, bv c] w fun e w' => e = .returned (rv (stepB r c)) ∧ w = w' := by
  have H0 := Lib.hid (start_int r c)
  go_enter Try.func95, Try.ntmps95
  go_wp2
  go_loop [0, 10] (fun v i => ∃ k : Nat, k ≤ 8 ∧ i = .int .i64 k ∧ v = rv (Tn k (r ^^^ ext c))) (fun _ i => 8 - (intOf i).toNat)
  case atStart =>
    exact ⟨0, by omega, rfl, congrArg (Value.int .u32) H0.out⟩
  case round =>
    obtain ⟨k, hk, rfl, rfl⟩ := hrel
    by_cases hlt : k < 8
    · have H := Lib.hid (T_int (Tn k (r ^^^ ext c)))
      go_wp2
      go_round
      case rel => exact ⟨k + 1, by omega, by go_num, by rw [Tn_succ]; exact congrArg (Value.int .u32) H.out⟩
      case measure => simp [intOf]; omega
    · go_wp2
      go_ret
      obtain rfl : k = 8 := by omega
      exact ⟨rfl, rfl⟩

theorem odd_int (x : BitVec 32) : (Go.bits .and .u32 (x.toNat : Int) 1 == 1) = x.getLsbD 0 := by
  have e1 : Go.bits .and .u32 (x.toNat : Int) 1 = ((x.toNat % 2 : Nat) : Int) := by
    have := u32_and_nat x.toNat 1 x.isLt (by omega)
    rw [nat_mask1] at this
    exact this
  have hb : x.getLsbD 0 = decide (x.toNat % 2 = 1) := by simp [BitVec.getLsbD, Nat.testBit_zero]
  rw [e1, hb]
  have : x.toNat % 2 = 0 ∨ x.toNat % 2 = 1 := by omega
  rcases this with h | h <;> rw [h] <;> rfl
theorem half_int (x : BitVec 32) : (x.toNat : Int) / (2 : Int) = ((x >>> 1).toNat : Int) := by
  rw [BitVec.toNat_ushiftRight, Nat.shiftRight_eq_div_pow]; omega
theorem T_odd (x : BitVec 32) (h : x.getLsbD 0 = true) : Go.bits .xor .u32 ((x.toNat : Int) / 2) 2197175160 = ((T x).toNat : Int) := by
  rw [half_int]
  have := xor_int (x >>> 1) poly
  unfold T
  rw [if_pos h, ← this]
  rfl
theorem T_even (x : BitVec 32) (h : x.getLsbD 0 = false) : ((x.toNat : Int) / 2) = ((T x).toNat : Int) := by
  rw [half_int]
  unfold T
  rw [if_neg (by rw [h]; decide), BitVec.xor_zero]
set_option maxHeartbeats 400000 in
theorem refStep_calls (r : BitVec 32) (c : UInt8) (w : World) :
    Calls Try.prog 99 #[rv r, bv c] w fun e w' => e = .returned (rv (stepB r c)) ∧ w = w' := by
  have H0 := Lib.hid (start_int r c)
  go_enter Try.func99, Try.ntmps99
  go_wp2
  go_loop [0, 5] (fun v i => ∃ k : Nat, k ≤ 8 ∧ i = .int .i64 k ∧ v = rv (Tn k (r ^^^ ext c))) (fun _ i => 8 - (intOf i).toNat)
  case atStart =>
    exact ⟨0, by omega, rfl, congrArg (Value.int .u32) H0.out⟩
  case round =>
    obtain ⟨k, hk, rfl, rfl⟩ := hrel
    by_cases hlt : k < 8
    · by_cases hodd : (Tn k (r ^^^ ext c)).getLsbD 0 = true
      · have ho : (Go.bits .and .u32 ((Tn k (r ^^^ ext c)).toNat : Int) 1 == 1) = true := by rw [odd_int, hodd]
        have H := Lib.hid (T_odd _ hodd)
        clear hodd
        go_wp2
        go_round
        case rel => exact ⟨k + 1, by omega, by go_num, by rw [Tn_succ]; exact congrArg (Value.int .u32) H.out⟩
        case measure => simp [intOf]; omega
      · have hev : (Tn k (r ^^^ ext c)).getLsbD 0 = false := by simpa using hodd
        have ho : (Go.bits .and .u32 ((Tn k (r ^^^ ext c)).toNat : Int) 1 == 1) = false := by rw [odd_int, hev]
        have H := Lib.hid (T_even _ hev)
        clear hodd hev
        go_wp2
        go_round
        case rel => exact ⟨k + 1, by omega, by go_num, by rw [Tn_succ]; exact congrArg (Value.int .u32) H.out⟩
        case measure => simp [intOf]; omega
    · go_wp2
      go_ret
      obtain rfl : k = 8 := by omega
      exact ⟨rfl, rfl⟩

theorem fold_take_succ (x : BitVec 32) (l : List UInt8) (k : Nat) (h : k < l.length) : fold x (l.take (k + 1)) = stepB (fold x (l.take k)) l[k] := by
  rw [List.take_succ_eq_append_getElem h, fold_append]; rfl
theorem take_flatten_succ (l : List (List UInt8)) (k : Nat) (h : k < l.length) : (l.take (k + 1)).flatten = (l.take k).flatten ++ l[k] := by
  rw [List.take_succ_eq_append_getElem h, List.flatten_append, List.flatten_cons, List.flatten_nil, List.append_nil]
set_option maxHeartbeats 400000 in
theorem many_calls (A : Option Addr) (cA : Nat) (vs : List Value) (bss : List (List UInt8)) (w : World) (hv : Rd w A vs) (hl : bss.length = vs.length) (hm : bss.length ≤ maxLen)
    (hb : ∀ i (h : i < bss.length), ∃ v, vs[i]? = some v ∧ BS w v bss[i]) :
    Calls Try.prog 84 #[.slice A bss.length cA] w fun e w' => e = .returned (rv (sum bss.flatten)) ∧ w = w' := by
  have HL := Lib.hid hl
  clear hl
  unfold maxLen at hm
  have HB := Lib.hid hb
  have HV := Lib.hid hv
  clear hb hv
  go_enter Try.func84, Try.ntmps84
  go_wp2
  go_loop [3, 10] (fun v i => ∃ k : Nat, k ≤ bss.length ∧ i = .int .i64 k ∧ v = rv (fold ones (bss.take k).flatten)) (fun _ i => bss.length - (intOf i).toNat)
  case atStart =>
    exact ⟨0, by omega, rfl, rfl⟩
  case round =>
    obtain ⟨k, hk, rfl, rfl⟩ := hrel
    by_cases hlt : k < bss.length
    · obtain ⟨v, hvk, a, c, rfl, h1, h2, h3, h4⟩ := HB.out k hlt
      obtain ⟨b, off, rfl, hc⟩ := HV.out.at (by have := HL.out; rintro rfl; rw [List.length_nil] at this; omega)
      have hcell := hc k _ hvk
      have H3 := Lib.hid h3
      have H4 := Lib.hid h4
      clear hc h3 h4 hvk HV HB
      unfold maxLen at h2
      go_wp2
      go_loop [3, 16] (fun v i => ∃ j : Nat, j ≤ bss[k].length ∧ i = .int .i64 j ∧ v = rv (fold (fold ones (bss.take k).flatten) (bss[k].take j))) (fun _ i => bss[k].length - (intOf i).toNat)
      case atStart => exact ⟨0, by omega, rfl, rfl⟩
      case round =>
        obtain ⟨j, hj, rfl, rfl⟩ := hrel
        by_cases hjt : j < bss[k].length
        · obtain ⟨b2, off2, rfl, hc2⟩ := H4.out.at (by intro h; simp at h; simp [h] at hjt)
          have hcell2 := hc2 j _ (bvs_get hjt)
          have H := Lib.hid (fold_take_succ (fold ones (bss.take k).flatten) _ _ hjt)
          clear hc2 H3 H4
          go_wp2_with (go_at_call 95; refine (step_calls _ _ _).mono ?_; rintro e w' ⟨rfl, rfl⟩)
          go_round
          case rel => exact ⟨j + 1, by omega, by go_num, by rw [H.out]⟩
          case measure => simp [intOf]; omega
        · go_wp2
          have ej : j = bss[k].length := by omega
          go_round
          case rel => exact ⟨k + 1, by omega, by go_num, by rw [take_flatten_succ _ _ hlt, fold_append, ej, List.take_length]⟩
          case measure => simp [intOf]; omega
    · have H := Lib.hid (xor_int (fold ones (bss.take k).flatten) ones)
      go_wp2
      go_ret
      obtain rfl : k = bss.length := by omega
      refine ⟨congrArg (fun x => Ending.returned (Value.int .u32 x)) (H.out.trans ?_), rfl⟩
      rw [List.take_length]; rfl


theorem compl_int (x : BitVec 32) : Go.bits .xor .u32 IntKind.u32.max (x.toNat : Int) = ((x ^^^ ones).toNat : Int) := by
  rw [BitVec.xor_comm]; exact xor_int ones x
set_option maxHeartbeats 400000 in
theorem refSum_calls (s : ByteArray) (w : World) (hs : s.size ≤ maxLen) :
    Calls Try.prog 93 #[.string s] w fun e w' => e = .returned (rv (sum s.data.toList)) ∧ w = w' := by
  unfold maxLen at hs
  go_enter Try.func93, Try.ntmps93
  go_wp2
  go_loop [3, 4] (fun v i => ∃ k : Nat, k ≤ s.size ∧ i = .int .i64 k ∧ v = rv (fold ones (s.data.toList.take k))) (fun _ i => s.size - (intOf i).toNat)
  case atStart => exact ⟨0, by omega, rfl, rfl⟩
  case round =>
    obtain ⟨k, hk, rfl, rfl⟩ := hrel
    by_cases hlt : k < s.size
    · have H := Lib.hid (fold_take_succ ones s.data.toList k (by simpa using hlt))
      go_wp2_with (go_at_call 99; refine (refStep_calls _ s[k] _).mono ?_; rintro e w' ⟨rfl, rfl⟩)
      go_round
      case rel => exact ⟨k + 1, by omega, by go_num, by rw [H.out]; rfl⟩
      case measure => simp [intOf]; omega
    · have H := Lib.hid (compl_int (fold ones (s.data.toList.take k)))
      go_wp2
      go_ret
      obtain rfl : k = s.size := by omega
      refine ⟨congrArg (fun x => Ending.returned (Value.int .u32 x)) (H.out.trans ?_), rfl⟩
      rw [List.take_of_length_le (by simp)]; rfl



theorem many_callsB {v : Value} {bss : List (List UInt8)} {w : World} (h : BSS w v bss) : Calls Try.prog 84 #[v] w fun e w' => e = .returned (rv (sum bss.flatten)) ∧ Add w w' := by
  obtain ⟨A, c, vs, rfl, h2, h3, h4, h5, _, h7⟩ := h
  exact add_of_eq (many_calls A c vs bss w h2 h3 (Nat.le_trans h4 h5) h7)
theorem refSum_callsL (l : List UInt8) (w : World) (hs : l.length ≤ maxLen) :
    Calls Try.prog 93 #[str l] w fun e w' => e = .returned (rv (sum l)) ∧ Add w w' := by
  have := refSum_calls ⟨l.toArray⟩ w (by show l.toArray.size ≤ _; rw [List.size_toArray]; exact hs)
  have e : (⟨l.toArray⟩ : ByteArray).data.toList = l := rfl
  rw [e] at this
  exact add_of_eq this
end Go.Proofs.Ytmilfilmhkpjoaa.CrcW
