/- The law PadTells, walked. -/
import Derived.Test.YtgpeckaimkbmoaaPadW4
namespace Go.Proofs.Ytgpeckaimkbmoaa.PadL4
open Go Go.RowKit Go.Proofs.Ytgpeckaimkbmoaa Go.Proofs.Ytgpeckaimkbmoaa.Sp Go.Proofs.Ytgpeckaimkbmoaa.Reg Go.Proofs.Ytgpeckaimkbmoaa.SlW Go.Proofs.Ytgpeckaimkbmoaa.PadW

theorem arr116 (tm : Array Value) (h : tm.size = 116) : ∃ u0 u1 u2 u3 u4 u5 u6 u7 u8 u9 u10 u11 u12 u13 u14 u15 u16 u17 u18 u19 u20 u21 u22 u23 u24 u25 u26 u27 u28 u29 u30 u31 u32 u33 u34 u35 u36 u37 u38 u39 u40 u41 u42 u43 u44 u45 u46 u47 u48 u49 u50 u51 u52 u53 u54 u55 u56 u57 u58 u59 u60 u61 u62 u63 u64 u65 u66 u67 u68 u69 u70 u71 u72 u73 u74 u75 u76 u77 u78 u79 u80 u81 u82 u83 u84 u85 u86 u87 u88 u89 u90 u91 u92 u93 u94 u95 u96 u97 u98 u99 u100 u101 u102 u103 u104 u105 u106 u107 u108 u109 u110 u111 u112 u113 u114 u115, tm = #[u0, u1, u2, u3, u4, u5, u6, u7, u8, u9, u10, u11, u12, u13, u14, u15, u16, u17, u18, u19, u20, u21, u22, u23, u24, u25, u26, u27, u28, u29, u30, u31, u32, u33, u34, u35, u36, u37, u38, u39, u40, u41, u42, u43, u44, u45, u46, u47, u48, u49, u50, u51, u52, u53, u54, u55, u56, u57, u58, u59, u60, u61, u62, u63, u64, u65, u66, u67, u68, u69, u70, u71, u72, u73, u74, u75, u76, u77, u78, u79, u80, u81, u82, u83, u84, u85, u86, u87, u88, u89, u90, u91, u92, u93, u94, u95, u96, u97, u98, u99, u100, u101, u102, u103, u104, u105, u106, u107, u108, u109, u110, u111, u112, u113, u114, u115] := by
  obtain ⟨l0⟩ := tm
  have h0 : l0.length = 116 := h
  clear h
  obtain ⟨u0, l1, rfl, h1⟩ := take1 h0
  clear h0
  obtain ⟨u1, l2, rfl, h2⟩ := take1 h1
  clear h1
  obtain ⟨u2, l3, rfl, h3⟩ := take1 h2
  clear h2
  obtain ⟨u3, l4, rfl, h4⟩ := take1 h3
  clear h3
  obtain ⟨u4, l5, rfl, h5⟩ := take1 h4
  clear h4
  obtain ⟨u5, l6, rfl, h6⟩ := take1 h5
  clear h5
  obtain ⟨u6, l7, rfl, h7⟩ := take1 h6
  clear h6
  obtain ⟨u7, l8, rfl, h8⟩ := take1 h7
  clear h7
  obtain ⟨u8, l9, rfl, h9⟩ := take1 h8
  clear h8
  obtain ⟨u9, l10, rfl, h10⟩ := take1 h9
  clear h9
  obtain ⟨u10, l11, rfl, h11⟩ := take1 h10
  clear h10
  obtain ⟨u11, l12, rfl, h12⟩ := take1 h11
  clear h11
  obtain ⟨u12, l13, rfl, h13⟩ := take1 h12
  clear h12
  obtain ⟨u13, l14, rfl, h14⟩ := take1 h13
  clear h13
  obtain ⟨u14, l15, rfl, h15⟩ := take1 h14
  clear h14
  obtain ⟨u15, l16, rfl, h16⟩ := take1 h15
  clear h15
  obtain ⟨u16, l17, rfl, h17⟩ := take1 h16
  clear h16
  obtain ⟨u17, l18, rfl, h18⟩ := take1 h17
  clear h17
  obtain ⟨u18, l19, rfl, h19⟩ := take1 h18
  clear h18
  obtain ⟨u19, l20, rfl, h20⟩ := take1 h19
  clear h19
  obtain ⟨u20, l21, rfl, h21⟩ := take1 h20
  clear h20
  obtain ⟨u21, l22, rfl, h22⟩ := take1 h21
  clear h21
  obtain ⟨u22, l23, rfl, h23⟩ := take1 h22
  clear h22
  obtain ⟨u23, l24, rfl, h24⟩ := take1 h23
  clear h23
  obtain ⟨u24, l25, rfl, h25⟩ := take1 h24
  clear h24
  obtain ⟨u25, l26, rfl, h26⟩ := take1 h25
  clear h25
  obtain ⟨u26, l27, rfl, h27⟩ := take1 h26
  clear h26
  obtain ⟨u27, l28, rfl, h28⟩ := take1 h27
  clear h27
  obtain ⟨u28, l29, rfl, h29⟩ := take1 h28
  clear h28
  obtain ⟨u29, l30, rfl, h30⟩ := take1 h29
  clear h29
  obtain ⟨u30, l31, rfl, h31⟩ := take1 h30
  clear h30
  obtain ⟨u31, l32, rfl, h32⟩ := take1 h31
  clear h31
  obtain ⟨u32, l33, rfl, h33⟩ := take1 h32
  clear h32
  obtain ⟨u33, l34, rfl, h34⟩ := take1 h33
  clear h33
  obtain ⟨u34, l35, rfl, h35⟩ := take1 h34
  clear h34
  obtain ⟨u35, l36, rfl, h36⟩ := take1 h35
  clear h35
  obtain ⟨u36, l37, rfl, h37⟩ := take1 h36
  clear h36
  obtain ⟨u37, l38, rfl, h38⟩ := take1 h37
  clear h37
  obtain ⟨u38, l39, rfl, h39⟩ := take1 h38
  clear h38
  obtain ⟨u39, l40, rfl, h40⟩ := take1 h39
  clear h39
  obtain ⟨u40, l41, rfl, h41⟩ := take1 h40
  clear h40
  obtain ⟨u41, l42, rfl, h42⟩ := take1 h41
  clear h41
  obtain ⟨u42, l43, rfl, h43⟩ := take1 h42
  clear h42
  obtain ⟨u43, l44, rfl, h44⟩ := take1 h43
  clear h43
  obtain ⟨u44, l45, rfl, h45⟩ := take1 h44
  clear h44
  obtain ⟨u45, l46, rfl, h46⟩ := take1 h45
  clear h45
  obtain ⟨u46, l47, rfl, h47⟩ := take1 h46
  clear h46
  obtain ⟨u47, l48, rfl, h48⟩ := take1 h47
  clear h47
  obtain ⟨u48, l49, rfl, h49⟩ := take1 h48
  clear h48
  obtain ⟨u49, l50, rfl, h50⟩ := take1 h49
  clear h49
  obtain ⟨u50, l51, rfl, h51⟩ := take1 h50
  clear h50
  obtain ⟨u51, l52, rfl, h52⟩ := take1 h51
  clear h51
  obtain ⟨u52, l53, rfl, h53⟩ := take1 h52
  clear h52
  obtain ⟨u53, l54, rfl, h54⟩ := take1 h53
  clear h53
  obtain ⟨u54, l55, rfl, h55⟩ := take1 h54
  clear h54
  obtain ⟨u55, l56, rfl, h56⟩ := take1 h55
  clear h55
  obtain ⟨u56, l57, rfl, h57⟩ := take1 h56
  clear h56
  obtain ⟨u57, l58, rfl, h58⟩ := take1 h57
  clear h57
  obtain ⟨u58, l59, rfl, h59⟩ := take1 h58
  clear h58
  obtain ⟨u59, l60, rfl, h60⟩ := take1 h59
  clear h59
  obtain ⟨u60, l61, rfl, h61⟩ := take1 h60
  clear h60
  obtain ⟨u61, l62, rfl, h62⟩ := take1 h61
  clear h61
  obtain ⟨u62, l63, rfl, h63⟩ := take1 h62
  clear h62
  obtain ⟨u63, l64, rfl, h64⟩ := take1 h63
  clear h63
  obtain ⟨u64, l65, rfl, h65⟩ := take1 h64
  clear h64
  obtain ⟨u65, l66, rfl, h66⟩ := take1 h65
  clear h65
  obtain ⟨u66, l67, rfl, h67⟩ := take1 h66
  clear h66
  obtain ⟨u67, l68, rfl, h68⟩ := take1 h67
  clear h67
  obtain ⟨u68, l69, rfl, h69⟩ := take1 h68
  clear h68
  obtain ⟨u69, l70, rfl, h70⟩ := take1 h69
  clear h69
  obtain ⟨u70, l71, rfl, h71⟩ := take1 h70
  clear h70
  obtain ⟨u71, l72, rfl, h72⟩ := take1 h71
  clear h71
  obtain ⟨u72, l73, rfl, h73⟩ := take1 h72
  clear h72
  obtain ⟨u73, l74, rfl, h74⟩ := take1 h73
  clear h73
  obtain ⟨u74, l75, rfl, h75⟩ := take1 h74
  clear h74
  obtain ⟨u75, l76, rfl, h76⟩ := take1 h75
  clear h75
  obtain ⟨u76, l77, rfl, h77⟩ := take1 h76
  clear h76
  obtain ⟨u77, l78, rfl, h78⟩ := take1 h77
  clear h77
  obtain ⟨u78, l79, rfl, h79⟩ := take1 h78
  clear h78
  obtain ⟨u79, l80, rfl, h80⟩ := take1 h79
  clear h79
  obtain ⟨u80, l81, rfl, h81⟩ := take1 h80
  clear h80
  obtain ⟨u81, l82, rfl, h82⟩ := take1 h81
  clear h81
  obtain ⟨u82, l83, rfl, h83⟩ := take1 h82
  clear h82
  obtain ⟨u83, l84, rfl, h84⟩ := take1 h83
  clear h83
  obtain ⟨u84, l85, rfl, h85⟩ := take1 h84
  clear h84
  obtain ⟨u85, l86, rfl, h86⟩ := take1 h85
  clear h85
  obtain ⟨u86, l87, rfl, h87⟩ := take1 h86
  clear h86
  obtain ⟨u87, l88, rfl, h88⟩ := take1 h87
  clear h87
  obtain ⟨u88, l89, rfl, h89⟩ := take1 h88
  clear h88
  obtain ⟨u89, l90, rfl, h90⟩ := take1 h89
  clear h89
  obtain ⟨u90, l91, rfl, h91⟩ := take1 h90
  clear h90
  obtain ⟨u91, l92, rfl, h92⟩ := take1 h91
  clear h91
  obtain ⟨u92, l93, rfl, h93⟩ := take1 h92
  clear h92
  obtain ⟨u93, l94, rfl, h94⟩ := take1 h93
  clear h93
  obtain ⟨u94, l95, rfl, h95⟩ := take1 h94
  clear h94
  obtain ⟨u95, l96, rfl, h96⟩ := take1 h95
  clear h95
  obtain ⟨u96, l97, rfl, h97⟩ := take1 h96
  clear h96
  obtain ⟨u97, l98, rfl, h98⟩ := take1 h97
  clear h97
  obtain ⟨u98, l99, rfl, h99⟩ := take1 h98
  clear h98
  obtain ⟨u99, l100, rfl, h100⟩ := take1 h99
  clear h99
  obtain ⟨u100, l101, rfl, h101⟩ := take1 h100
  clear h100
  obtain ⟨u101, l102, rfl, h102⟩ := take1 h101
  clear h101
  obtain ⟨u102, l103, rfl, h103⟩ := take1 h102
  clear h102
  obtain ⟨u103, l104, rfl, h104⟩ := take1 h103
  clear h103
  obtain ⟨u104, l105, rfl, h105⟩ := take1 h104
  clear h104
  obtain ⟨u105, l106, rfl, h106⟩ := take1 h105
  clear h105
  obtain ⟨u106, l107, rfl, h107⟩ := take1 h106
  clear h106
  obtain ⟨u107, l108, rfl, h108⟩ := take1 h107
  clear h107
  obtain ⟨u108, l109, rfl, h109⟩ := take1 h108
  clear h108
  obtain ⟨u109, l110, rfl, h110⟩ := take1 h109
  clear h109
  obtain ⟨u110, l111, rfl, h111⟩ := take1 h110
  clear h110
  obtain ⟨u111, l112, rfl, h112⟩ := take1 h111
  clear h111
  obtain ⟨u112, l113, rfl, h113⟩ := take1 h112
  clear h112
  obtain ⟨u113, l114, rfl, h114⟩ := take1 h113
  clear h113
  obtain ⟨u114, l115, rfl, h115⟩ := take1 h114
  clear h114
  obtain ⟨u115, l116, rfl, h116⟩ := take1 h115
  clear h115
  obtain rfl : l116 = [] := List.eq_nil_of_length_eq_zero h116
  exact ⟨_, _, _, _, _, _, _, _, _, _, _, _, _, _, _, _, _, _, _, _, _, _, _, _, _, _, _, _, _, _, _, _, _, _, _, _, _, _, _, _, _, _, _, _, _, _, _, _, _, _, _, _, _, _, _, _, _, _, _, _, _, _, _, _, _, _, _, _, _, _, _, _, _, _, _, _, _, _, _, _, _, _, _, _, _, _, _, _, _, _, _, _, _, _, _, _, _, _, _, _, _, _, _, _, _, _, _, _, _, _, _, _, _, _, _, _, rfl⟩
set_option maxHeartbeats 1600000 in
set_option maxRecDepth 100000 in
theorem walkRow (a : Option Addr) (c : Nat) (bs : List UInt8) (n : Int) (w : World) (h : BS w (.slice a bs.length c) bs) (_y : bs.length * 1 ≤ 140737488351232) (wn : (Lit.int .i64 n).wf = true) :
    Calls Try.prog 14 #[.slice a bs.length c, .int .i64 n] w fun e w' => e = .returned (.bool true) ∧ Below w.heap.size w w' := by
  have hn : -9223372036854775808 ≤ n ∧ n ≤ 9223372036854775807 := by simpa [Lit.wf, IntKind.min, IntKind.max, IntKind.signed, IntKind.bits] using wn
  have HB := Lib.hid h
  have HN := Lib.hid hn
  clear h wn hn
  by_cases hlen : 300 < bs.length
  · go_enter Try.func14, Try.ntmps14
    go_wp2_with fail
    refine (awake_calls _).mono ?_
    rintro e w1 ⟨rfl, h1⟩
    go_wp2_with fail
    go_ret
    exact ⟨rfl, h1⟩
  · by_cases h64 : 64 < bs.length
    · have e64 : decide ((bs.length : Int) ≤ 64) = false := by simp; omega
      go_enter Try.func14, Try.ntmps14
      go_wp2_with fail
      refine (full_no a _ c w h64).mono ?_
      rintro e w1 ⟨rfl, h1⟩
      have H1 := Lib.hid h1
      clear h1
      go_wp2_with fail
      refine (cut_no a _ c w1 h64).mono ?_
      rintro e w2 ⟨rfl, h2⟩
      have H2 := Lib.hid (H1.out.trans h2)
      clear h2 H1
      go_wp2_with fail
      refine (awake_calls _).mono ?_
      rintro e w3 ⟨rfl, h3⟩
      have H3 := Lib.hid (H2.out.trans h3)
      clear h3
      go_wp2_with fail
      go_ret
      exact ⟨rfl, H3.out⟩
    · have hl64 : bs.length ≤ 64 := by omega
      clear hlen h64
      go_enter Try.func14, Try.ntmps14
      go_wp2_with fail
      refine (full_yes a c bs w HB.out hl64 (St.init w)).mono ?_
      have hfl : (bs ++ List.replicate (64 - bs.length) (0 : UInt8)).length = 64 := by simp; omega
      have htk : ∀ m, m ≤ bs.length → (bs ++ List.replicate (64 - bs.length) (0 : UInt8)).take bs.length = bs := fun _ _ => List.take_left' rfl
      have hrf := fun w => rfull_calls bs w hl64
      have hct := cut_yes a c bs
      have hrc := fun w => rcut_calls bs w hl64
      generalize bs ++ List.replicate (64 - bs.length) (0 : UInt8) = F at hfl htk hrf hct hrc ⊢
      rintro e w1 ⟨v1, rfl, s1, -⟩
      have hbf : BS w1 v1 F := s1.bs
      obtain ⟨a1, c1, rfl, hbf⟩ := bs_val hbf
      have HBF := Lib.hid hbf
      have h1 : Add w w1 := s1.below
      have H1 := Lib.hid h1
      clear h1
      have HFL := Lib.hid hfl
      have HTK := Lib.hid htk
      have HRF := Lib.hid hrf
      have HRC := Lib.hid hrc
      have HCT := Lib.hid hct
      rw [HFL.out] at HBF ⊢
      clear s1 hbf hfl htk hrf hrc hct
      go_wp2_with fail
      refine (HCT.out w1 (HB.out.below H1.out) hl64).mono ?_
      have hp := pieces_len _ HFL.out
      have hc := cat_pieces _ HFL.out
      have hp4 : ((List.range 4).map (piece F)).length = 4 := by simp
      generalize (List.range 4).map (piece F) = bss at hp hc hp4 HRC ⊢
      rintro e w2 ⟨v2, rfl, h2, b2⟩
      obtain ⟨A, cA, rfl, hbss⟩ := bss_val b2
      have HP4 := Lib.hid hp4
      have HP := Lib.hid hp
      have HC := Lib.hid hc
      have H2 := Lib.hid h2
      have HBSS := Lib.hid hbss
      clear hp hc hp4 h2 hbss b2 HCT
      rw [HP4.out] at HBSS ⊢
      go_wp2_with fail
      have g0 : ∀ w', Add w2 w' → BS w' (.slice a bs.length c) bs := fun w' ha => ((HB.out.below H1.out).below H2.out).below ha
      have g1 : ∀ w', Add w2 w' → BS w' (.slice a1 64 c1) F := fun w' ha => (HBF.out.below H2.out).below ha
      have g2 : ∀ w', Add w2 w' → BSS w' (.slice A bss.length cA) bss := fun w' ha => by rw [HP4.out]; exact HBSS.out.below ha
      refine wp_region_rs mixed (by kernel_rfl) ?_
      refine RSl.exact (.slice a1 64 c1) rfl rfl rfl rfl (fun _ _ => rfl) ?_
      refine RSl.exact (str F) rfl rfl rfl rfl (fun w' ha => exec_convert rfl (run_str Try.underlying22 Try.underlying5 Try.underlying9 (g1 w' ha))) ?_
      refine RSl.exact (.slice a bs.length c) rfl rfl rfl rfl (fun _ _ => rfl) ?_
      refine RSl.exact (str bs) rfl rfl rfl rfl (fun w' ha => exec_convert rfl (run_str Try.underlying22 Try.underlying5 Try.underlying9 (g0 w' ha))) ?_
      refine RSl.callx (str F) _ [str bs] [.tmp 57] _ rfl rfl rfl rfl rfl (fun _ => rfl) (fun w' ha => HRF.out w') ?_
      refine RSl.exact (.bool false) rfl rfl rfl rfl (fun w' ha => by simp [rho, upd, Spec.val, execOp, go_sem]) ?_
      refine RSl.exact (.bool false) rfl rfl rfl rfl (fun _ _ => rfl) ?_
      refine RSl.exact (.slice A 4 cA) rfl rfl rfl rfl (fun _ _ => rfl) ?_
      refine RSl.callS (.so (fun v w => SS w v bss)) (Stab.ss _) _ rfl rfl rfl (fun ρ w' ha hag => ⟨_, exec_go hag.2.2.2 _ [.tmp 61] _ rfl _ rfl rfl, by have e := hag.ex 61 (.slice A 4 cA) rfl rfl rfl; have q := strings_calls A cA bss w' (g2 w' ha) (by rw [HP4.out]; decide); rw [HP4.out, ← e] at q; exact q⟩) ?_
      refine RSl.exact (.slice a bs.length c) rfl rfl rfl rfl (fun _ _ => rfl) ?_
      refine RSl.exact (str bs) rfl rfl rfl rfl (fun w' ha => exec_convert rfl (run_str Try.underlying22 Try.underlying5 Try.underlying9 (g0 w' ha))) ?_
      refine RSl.callS (.so (fun v w => SS w v bss)) (Stab.ss _) _ rfl rfl rfl (fun ρ w' ha hag => ⟨_, exec_go hag.2.2.2 _ [.tmp 64] _ rfl _ rfl rfl, by have e := hag.ex 64 (str bs) rfl rfl rfl; have q := HRC.out w'; rw [← e] at q; exact q⟩) ?_
      refine RSl.callS (.ex (.bool true)) (Stab.ex _) _ rfl rfl rfl (fun ρ w' ha hag => ⟨_, exec_go hag.2.2.2 _ [.tmp 62, .tmp 65] _ rfl _ rfl rfl, exOf (same_yes _ _ bss w' (hag.so 62 _ rfl rfl rfl) (hag.so 65 _ rfl rfl rfl))⟩) ?_
      refine RSl.exact (.bool false) rfl rfl rfl rfl (fun w' ha => by simp [rho, upd, Spec.val, execOp, go_sem]) ?_
      refine RSl.exact (.bool false) rfl rfl rfl rfl (fun _ _ => rfl) ?_
      refine RSl.nil fun a' w3 ha hd hs hh => ?_
      have H3 := Lib.hid ha
      clear ha
      obtain ⟨tm, df⟩ := a'
      replace hd : df = [] := hd
      subst hd
      obtain ⟨u0, u1, u2, u3, u4, u5, u6, u7, u8, u9, u10, u11, u12, u13, u14, u15, u16, u17, u18, u19, u20, u21, u22, u23, u24, u25, u26, u27, u28, u29, u30, u31, u32, u33, u34, u35, u36, u37, u38, u39, u40, u41, u42, u43, u44, u45, u46, u47, u48, u49, u50, u51, u52, u53, u54, u55, u56, u57, u58, u59, u60, u61, u62, u63, u64, u65, u66, u67, u68, u69, u70, u71, u72, u73, u74, u75, u76, u77, u78, u79, u80, u81, u82, u83, u84, u85, u86, u87, u88, u89, u90, u91, u92, u93, u94, u95, u96, u97, u98, u99, u100, u101, u102, u103, u104, u105, u106, u107, u108, u109, u110, u111, u112, u113, u114, u115, rfl⟩ := arr116 tm hs
      obtain rfl : u0 = .slice a bs.length c := hh 0 (by simp)
      obtain rfl : u1 = .int .i64 n := hh 1 (by simp)
      obtain rfl : u5 = .slice a1 64 c1 := hh 5 (by simp)
      obtain rfl : u7 = .slice A 4 cA := hh 7 (by simp)
      obtain rfl : u68 = .bool false := hh 68 (by simp)
      clear hh hs
      have hbs3 : BSS w3 (.slice A bss.length cA) bss := by rw [HP4.out]; exact HBSS.out.below H3.out
      have hb3 : BS w3 (.slice a bs.length c) bs := g0 w3 H3.out
      have H123 := Lib.hid ((H1.out.trans H2.out).trans H3.out)
      clear g0 g1 g2 HRC HBSS H1 H2 H3
      have hbsW : ∀ w', Add w3 w' → BS w' (.slice a bs.length c) bs := fun w' ha => hb3.below ha
      have hbssW : ∀ w', Add w3 w' → BSS w' (.slice A bss.length cA) bss := fun w' ha => hbs3.below ha
      by_cases hin : 0 ≤ n ∧ n ≤ 64
      · obtain ⟨hi0, hi64⟩ := hin
        obtain ⟨m, rfl⟩ := Int.eq_ofNat_of_zero_le hi0
        have hj := join_yes A cA bss m w3 hbs3 HP4.out (by omega) HP.out
        rw [HP4.out, HC.out] at hj
        have HJ := Lib.hid hj
        have hsl := fun w => run_str_take (P := Try.prog) Try.underlying9 w F .i64 m (by rw [HFL.out]; omega)
        clear hj hbs3 hb3 hi0
        go_wp2_with fail
        refine HJ.out.mono ?_
        clear HJ
        generalize F.take m = T at hsl ⊢
        rintro e w4 ⟨v4, rfl, h4, b4⟩
        obtain ⟨a4, c4, rfl, hb4⟩ := bs_val b4
        have HB4 := Lib.hid hb4
        have H4 := Lib.hid h4
        have hcv4 := run_str (P := Try.prog) Try.underlying22 Try.underlying5 Try.underlying9 (hbsW w4 h4)
        clear hb4 b4 h4
        go_wp2_with fail
        refine (HRF.out w4).mono ?_
        rintro e w5 ⟨rfl, h5⟩
        have H5 := Lib.hid h5
        clear h5 hcv4
        go_wp2_with fail
        have hj2 := join_yes A cA bss bs.length w5 (hbssW w5 (H4.out.trans H5.out)) HP4.out (by omega) HP.out
        rw [HP4.out, HC.out, HTK.out bs.length (Nat.le_refl _)] at hj2
        refine hj2.mono ?_
        clear hj2
        rintro e w6 ⟨v6, rfl, h6, b6⟩
        obtain ⟨a6, c6, rfl, hb6⟩ := bs_val b6
        have q1 := run_str (P := Try.prog) Try.underlying22 Try.underlying5 Try.underlying9 ((HB4.out.below H5.out).below h6)
        have q2 := run_str (P := Try.prog) Try.underlying22 Try.underlying5 Try.underlying9 hb6
        have q3 := run_str (P := Try.prog) Try.underlying22 Try.underlying5 Try.underlying9 (hbsW w6 (Add.trans (a := w3) (H4.out.trans H5.out) h6))
        have H6 := Lib.hid (Add.trans (a := w3) (H4.out.trans H5.out) h6)
        clear hb6 b6 h6
        go_wp2_with fail
        refine (awake_calls _).mono ?_
        rintro e w7 ⟨rfl, h7⟩
        have H7 := Lib.hid h7
        clear h7
        go_wp2_with fail
        go_ret
        exact ⟨rfl, (H123.out.trans H6.out).trans H7.out⟩
      · by_cases hneg : n < 0
        · clear hin
          have HJ := Lib.hid (join_no A cA bss n w3 hbs3 HN.out.1 HN.out.2 (fun q => by have q1 := q.2.1; have q2 := q.2.2.1; omega))
          clear hbs3 hb3
          go_wp2_with fail
          refine (by have q := HJ.out; rw [HP4.out] at q; exact q : Calls Try.prog 23 #[.slice A 4 cA, .int .i64 n] w3 (RetNo w3)).mono ?_
          clear HJ
          rintro e w4 ⟨rfl, h4⟩
          have HB4 := Lib.hid (BS.nil w4)
          have H4 := Lib.hid h4
          clear h4
          go_wp2_with fail
          have hj2 := join_yes A cA bss bs.length w4 (hbssW w4 H4.out) HP4.out (by omega) HP.out
          rw [HP4.out, HC.out, HTK.out bs.length (Nat.le_refl _)] at hj2
          refine hj2.mono ?_
          clear hj2
          rintro e w6 ⟨v6, rfl, h6, b6⟩
          obtain ⟨a6, c6, rfl, hb6⟩ := bs_val b6
          have q1 := run_str (P := Try.prog) Try.underlying22 Try.underlying5 Try.underlying9 (HB4.out.below h6)
          have q2 := run_str (P := Try.prog) Try.underlying22 Try.underlying5 Try.underlying9 hb6
          have q3 := run_str (P := Try.prog) Try.underlying22 Try.underlying5 Try.underlying9 (hbsW w6 (Add.trans (a := w3) H4.out h6))
          have H6 := Lib.hid (Add.trans (a := w3) H4.out h6)
          clear hb6 b6 h6
          go_wp2_with fail
          refine (awake_calls _).mono ?_
          rintro e w7 ⟨rfl, h7⟩
          have H7 := Lib.hid h7
          clear h7
          go_wp2_with fail
          go_ret
          exact ⟨rfl, (H123.out.trans H6.out).trans H7.out⟩
        · have hbig : 64 < n := by omega
          have hd64 : decide (n ≤ 64) = false := by simp; omega
          clear hin
          have HJ := Lib.hid (join_no A cA bss n w3 hbs3 HN.out.1 HN.out.2 (fun q => by have q1 := q.2.1; have q2 := q.2.2.1; omega))
          clear hbs3 hb3
          go_wp2_with fail
          refine (by have q := HJ.out; rw [HP4.out] at q; exact q : Calls Try.prog 23 #[.slice A 4 cA, .int .i64 n] w3 (RetNo w3)).mono ?_
          clear HJ
          rintro e w4 ⟨rfl, h4⟩
          have HB4 := Lib.hid (BS.nil w4)
          have H4 := Lib.hid h4
          clear h4
          go_wp2_with fail
          have hj2 := join_yes A cA bss bs.length w4 (hbssW w4 H4.out) HP4.out (by omega) HP.out
          rw [HP4.out, HC.out, HTK.out bs.length (Nat.le_refl _)] at hj2
          refine hj2.mono ?_
          clear hj2
          rintro e w6 ⟨v6, rfl, h6, b6⟩
          obtain ⟨a6, c6, rfl, hb6⟩ := bs_val b6
          have q1 := run_str (P := Try.prog) Try.underlying22 Try.underlying5 Try.underlying9 (HB4.out.below h6)
          have q2 := run_str (P := Try.prog) Try.underlying22 Try.underlying5 Try.underlying9 hb6
          have q3 := run_str (P := Try.prog) Try.underlying22 Try.underlying5 Try.underlying9 (hbsW w6 (Add.trans (a := w3) H4.out h6))
          have H6 := Lib.hid (Add.trans (a := w3) H4.out h6)
          clear hb6 b6 h6
          go_wp2_with fail
          refine (awake_calls _).mono ?_
          rintro e w7 ⟨rfl, h7⟩
          have H7 := Lib.hid h7
          clear h7
          go_wp2_with fail
          go_ret
          exact ⟨rfl, (H123.out.trans H6.out).trans H7.out⟩
end Go.Proofs.Ytgpeckaimkbmoaa.PadL4
