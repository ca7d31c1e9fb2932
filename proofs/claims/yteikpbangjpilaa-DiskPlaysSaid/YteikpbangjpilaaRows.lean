/-
  No cell of these rows narrows 'for every input' (looked for: loops, veiled, ifaces, maps, wideKeys, modest, calm, conditions, laid).
  DERIVED. THE GIVEN ROWS OF THIS SEAT. 10 by the template 'for every input the law returns true; each argument reads behind the call as it read before'; 0 by the template 'total and deterministic' (their statements: YteikpbangjpilaaTotals.lean).
  GIVEN WITH THE SEED: the statements are not yours to turn. If you find one false, say at which input.
  Laid BY PROGRAM, IN A SANDBOX (cutbox-rows.mjs): the forced cells as the released guide's own fill.sh prints them over the translation 95338c05d1861445… (all of the seat's roots in one cut). By AI agents, Wed Nov 11 2026. No macro, syntax, notation, axiom, sorry.
-/
import Derived.Test.YteikpbangjpilaaChecked
import GoSem.Claim
import GoSem.ClaimJoined
import GoSem.ClaimMapViews
import Derived.JoinedTies
import Derived.KernelRfl
namespace Go.Proofs.Yteikpbangjpilaa
/- THE CELL 'sum', in the pinned program and in every row, IS THE sha256 OF THE DUMP (.gsa) THAT YteikpbangjpilaaProg.lean LOADS. Nothing in Lean hashes anything: it is a label: what it is worth is what the hold of that sum in a sandbox is worth. -/
noncomputable def Try.pinned : Pinned := { name := "yteikpbangjpilaa", sum := "95338c05d18614459df2d3ee166a750a2a6f4772f64f0e3a70062b73181f0758", checked := Try.checked }
namespace Rows
def none {H : Type} : Left H := { results := [], args := [] }

/-- 'hypocaustlaw11.TapeBegins': WHATEVER THE INPUT: true; the input reads as it did. -/
def tapeBeginsSpec : ChangeSpec := { name := "tapeBegins", fn := fun _ => fun
  | [d1, d2] => { results := [.lit (.bool true)], args := [d1, d2] }
  | _ => none }
def tapeBeginsRow : OpenClaim := { program := "yteikpbangjpilaa", sum := "95338c05d18614459df2d3ee166a750a2a6f4772f64f0e3a70062b73181f0758", func := "hypocaust/hypocaustlaw11.TapeBegins", spec := "tapeBegins", apart := false }
def TapeBeginsSaid : Prop := tapeBeginsRow.holds Try.pinned (OpenSpec.ofChange tapeBeginsSpec)

/-- ITS FALSE NEIGHBOUR: 'it returns false'. Refute it at one input. -/
def tapeBeginsWrong : ChangeSpec := { name := "tapeBegins", fn := fun _ => fun
  | [d1, d2] => { results := [.lit (.bool false)], args := [d1, d2] }
  | _ => none }
def TapeBeginsWrongFalsely : Prop := tapeBeginsRow.holds Try.pinned (OpenSpec.ofChange tapeBeginsWrong)

/-- 'hypocaustlaw11.TapeCuts': WHATEVER THE INPUT: true; the input reads as it did. -/
def tapeCutsSpec : ChangeSpec := { name := "tapeCuts", fn := fun _ => fun
  | [d1, d2, d3, d4] => { results := [.lit (.bool true)], args := [d1, d2, d3, d4] }
  | _ => none }
def tapeCutsRow : OpenClaim := { program := "yteikpbangjpilaa", sum := "95338c05d18614459df2d3ee166a750a2a6f4772f64f0e3a70062b73181f0758", func := "hypocaust/hypocaustlaw11.TapeCuts", spec := "tapeCuts", apart := false }
def TapeCutsSaid : Prop := tapeCutsRow.holds Try.pinned (OpenSpec.ofChange tapeCutsSpec)

/-- ITS FALSE NEIGHBOUR: 'it returns false'. Refute it at one input. -/
def tapeCutsWrong : ChangeSpec := { name := "tapeCuts", fn := fun _ => fun
  | [d1, d2, d3, d4] => { results := [.lit (.bool false)], args := [d1, d2, d3, d4] }
  | _ => none }
def TapeCutsWrongFalsely : Prop := tapeCutsRow.holds Try.pinned (OpenSpec.ofChange tapeCutsWrong)

/-- 'hypocaustlaw11.TapeFull': WHATEVER THE INPUT: true; the input reads as it did. -/
def tapeFullSpec : ChangeSpec := { name := "tapeFull", fn := fun _ => fun
  | [d] => { results := [.lit (.bool true)], args := [d] }
  | _ => none }
def tapeFullRow : OpenClaim := { program := "yteikpbangjpilaa", sum := "95338c05d18614459df2d3ee166a750a2a6f4772f64f0e3a70062b73181f0758", func := "hypocaust/hypocaustlaw11.TapeFull", spec := "tapeFull", apart := false }
def TapeFullSaid : Prop := tapeFullRow.holds Try.pinned (OpenSpec.ofChange tapeFullSpec)

/-- ITS FALSE NEIGHBOUR: 'it returns false'. Refute it at one input. -/
def tapeFullWrong : ChangeSpec := { name := "tapeFull", fn := fun _ => fun
  | [d] => { results := [.lit (.bool false)], args := [d] }
  | _ => none }
def TapeFullWrongFalsely : Prop := tapeFullRow.holds Try.pinned (OpenSpec.ofChange tapeFullWrong)

/-- 'hypocaustlaw11.TapePlays': WHATEVER THE INPUT: true; the input reads as it did. -/
def tapePlaysSpec : ChangeSpec := { name := "tapePlays", fn := fun _ => fun
  | [d1, d2] => { results := [.lit (.bool true)], args := [d1, d2] }
  | _ => none }
def tapePlaysRow : OpenClaim := { program := "yteikpbangjpilaa", sum := "95338c05d18614459df2d3ee166a750a2a6f4772f64f0e3a70062b73181f0758", func := "hypocaust/hypocaustlaw11.TapePlays", spec := "tapePlays", apart := false }
def TapePlaysSaid : Prop := tapePlaysRow.holds Try.pinned (OpenSpec.ofChange tapePlaysSpec)

/-- ITS FALSE NEIGHBOUR: 'it returns false'. Refute it at one input. -/
def tapePlaysWrong : ChangeSpec := { name := "tapePlays", fn := fun _ => fun
  | [d1, d2] => { results := [.lit (.bool false)], args := [d1, d2] }
  | _ => none }
def TapePlaysWrongFalsely : Prop := tapePlaysRow.holds Try.pinned (OpenSpec.ofChange tapePlaysWrong)

/-- 'hypocaustlaw7.DiskTears': WHATEVER THE INPUT: true; the input reads as it did. -/
def diskTearsSpec : ChangeSpec := { name := "diskTears", fn := fun _ => fun
  | [d1, d2, d3] => { results := [.lit (.bool true)], args := [d1, d2, d3] }
  | _ => none }
def diskTearsRow : OpenClaim := { program := "yteikpbangjpilaa", sum := "95338c05d18614459df2d3ee166a750a2a6f4772f64f0e3a70062b73181f0758", func := "hypocaust/hypocaustlaw7.DiskTears", spec := "diskTears", unfollowed := true, recurses := true, apart := false }
def DiskTearsSaid : Prop := diskTearsRow.holds Try.pinned (OpenSpec.ofChange diskTearsSpec)

/-- ITS FALSE NEIGHBOUR: 'it returns false'. Refute it at one input. -/
def diskTearsWrong : ChangeSpec := { name := "diskTears", fn := fun _ => fun
  | [d1, d2, d3] => { results := [.lit (.bool false)], args := [d1, d2, d3] }
  | _ => none }
def DiskTearsWrongFalsely : Prop := diskTearsRow.holds Try.pinned (OpenSpec.ofChange diskTearsWrong)

/-- 'hypocaustlaw7.DiskSynced': WHATEVER THE INPUT: true; the input reads as it did. -/
def diskSyncedSpec : ChangeSpec := { name := "diskSynced", fn := fun _ => fun
  | [d1, d2, d3] => { results := [.lit (.bool true)], args := [d1, d2, d3] }
  | _ => none }
def diskSyncedRow : OpenClaim := { program := "yteikpbangjpilaa", sum := "95338c05d18614459df2d3ee166a750a2a6f4772f64f0e3a70062b73181f0758", func := "hypocaust/hypocaustlaw7.DiskSynced", spec := "diskSynced", unfollowed := true, recurses := true, apart := false }
def DiskSyncedSaid : Prop := diskSyncedRow.holds Try.pinned (OpenSpec.ofChange diskSyncedSpec)

/-- ITS FALSE NEIGHBOUR: 'it returns false'. Refute it at one input. -/
def diskSyncedWrong : ChangeSpec := { name := "diskSynced", fn := fun _ => fun
  | [d1, d2, d3] => { results := [.lit (.bool false)], args := [d1, d2, d3] }
  | _ => none }
def DiskSyncedWrongFalsely : Prop := diskSyncedRow.holds Try.pinned (OpenSpec.ofChange diskSyncedWrong)

/-- 'hypocaustlaw7.DiskFuses': WHATEVER THE INPUT: true; the input reads as it did. -/
def diskFusesSpec : ChangeSpec := { name := "diskFuses", fn := fun _ => fun
  | [d1, d2] => { results := [.lit (.bool true)], args := [d1, d2] }
  | _ => none }
def diskFusesRow : OpenClaim := { program := "yteikpbangjpilaa", sum := "95338c05d18614459df2d3ee166a750a2a6f4772f64f0e3a70062b73181f0758", func := "hypocaust/hypocaustlaw7.DiskFuses", spec := "diskFuses", unfollowed := true, recurses := true, apart := false }
def DiskFusesSaid : Prop := diskFusesRow.holds Try.pinned (OpenSpec.ofChange diskFusesSpec)

/-- ITS FALSE NEIGHBOUR: 'it returns false'. Refute it at one input. -/
def diskFusesWrong : ChangeSpec := { name := "diskFuses", fn := fun _ => fun
  | [d1, d2] => { results := [.lit (.bool false)], args := [d1, d2] }
  | _ => none }
def DiskFusesWrongFalsely : Prop := diskFusesRow.holds Try.pinned (OpenSpec.ofChange diskFusesWrong)

/-- 'hypocaustlaw7.DiskRots': WHATEVER THE INPUT: true; the input reads as it did. -/
def diskRotsSpec : ChangeSpec := { name := "diskRots", fn := fun _ => fun
  | [d1, d2, d3, d4, d5, d6] => { results := [.lit (.bool true)], args := [d1, d2, d3, d4, d5, d6] }
  | _ => none }
def diskRotsRow : OpenClaim := { program := "yteikpbangjpilaa", sum := "95338c05d18614459df2d3ee166a750a2a6f4772f64f0e3a70062b73181f0758", func := "hypocaust/hypocaustlaw7.DiskRots", spec := "diskRots", unfollowed := true, recurses := true, apart := false }
def DiskRotsSaid : Prop := diskRotsRow.holds Try.pinned (OpenSpec.ofChange diskRotsSpec)

/-- ITS FALSE NEIGHBOUR: 'it returns false'. Refute it at one input. -/
def diskRotsWrong : ChangeSpec := { name := "diskRots", fn := fun _ => fun
  | [d1, d2, d3, d4, d5, d6] => { results := [.lit (.bool false)], args := [d1, d2, d3, d4, d5, d6] }
  | _ => none }
def DiskRotsWrongFalsely : Prop := diskRotsRow.holds Try.pinned (OpenSpec.ofChange diskRotsWrong)

/-- 'hypocaustlaw7.DiskLost': WHATEVER THE INPUT: true; the input reads as it did. -/
def diskLostSpec : ChangeSpec := { name := "diskLost", fn := fun _ => fun
  | [d] => { results := [.lit (.bool true)], args := [d] }
  | _ => none }
def diskLostRow : OpenClaim := { program := "yteikpbangjpilaa", sum := "95338c05d18614459df2d3ee166a750a2a6f4772f64f0e3a70062b73181f0758", func := "hypocaust/hypocaustlaw7.DiskLost", spec := "diskLost", unfollowed := true, recurses := true, apart := false }
def DiskLostSaid : Prop := diskLostRow.holds Try.pinned (OpenSpec.ofChange diskLostSpec)

/-- ITS FALSE NEIGHBOUR: 'it returns false'. Refute it at one input. -/
def diskLostWrong : ChangeSpec := { name := "diskLost", fn := fun _ => fun
  | [d] => { results := [.lit (.bool false)], args := [d] }
  | _ => none }
def DiskLostWrongFalsely : Prop := diskLostRow.holds Try.pinned (OpenSpec.ofChange diskLostWrong)

/-- 'hypocaustlaw7.DiskPlays': WHATEVER THE INPUT: true; the input reads as it did. -/
def diskPlaysSpec : ChangeSpec := { name := "diskPlays", fn := fun _ => fun
  | [d1, d2, d3] => { results := [.lit (.bool true)], args := [d1, d2, d3] }
  | _ => none }
def diskPlaysRow : OpenClaim := { program := "yteikpbangjpilaa", sum := "95338c05d18614459df2d3ee166a750a2a6f4772f64f0e3a70062b73181f0758", func := "hypocaust/hypocaustlaw7.DiskPlays", spec := "diskPlays", unfollowed := true, recurses := true, apart := false }
def DiskPlaysSaid : Prop := diskPlaysRow.holds Try.pinned (OpenSpec.ofChange diskPlaysSpec)

/-- ITS FALSE NEIGHBOUR: 'it returns false'. Refute it at one input. -/
def diskPlaysWrong : ChangeSpec := { name := "diskPlays", fn := fun _ => fun
  | [d1, d2, d3] => { results := [.lit (.bool false)], args := [d1, d2, d3] }
  | _ => none }
def DiskPlaysWrongFalsely : Prop := diskPlaysRow.holds Try.pinned (OpenSpec.ofChange diskPlaysWrong)

/- THE SECOND FORM. 'bulk': how many values and letters a reading holds, each counted each time it is reached (what is shared counts as often as it is met; a slice's spare places count too). A statement '..UptoSaid' is the law's where the arguments, and the package variables that the reading takes, are together of bulk at most 1048576: NARROWER than '..Said'. Prove '..Said' where nothing that the law and all that it calls make is longer than what came in: it says more and counts as full. Else prove '..UptoSaid'. A law counts once. -/
mutual
def uptoBulk {H : Type} : DataW H → Nat
  | .lit (.string bytes) => bytes.length + 1
  | .lit _ => 1
  | .nil => 1
  | .ptr d => uptoBulk d + 1
  | .slice elems spare => uptoBulkAll elems + uptoBulkAll spare + 1
  | .agg parts => uptoBulkAll parts + 1
  | .iface _ d => uptoBulk d + 1
  | .map entries => uptoBulkEntries entries + 1
  | .held _ => 1
def uptoBulkAll {H : Type} : List (DataW H) → Nat
  | [] => 0
  | d :: r => uptoBulk d + uptoBulkAll r
def uptoBulkEntries {H : Type} : List (Lit × DataW H) → Nat
  | [] => 0
  | x :: r => uptoBulkEntry x + uptoBulkEntries r
def uptoBulkEntry {H : Type} : Lit × DataW H → Nat
  | (.string bytes, d) => bytes.length + uptoBulk d + 1
  | (_, d) => uptoBulk d + 1
 end
def uptoSmall : (H : Type) → List (DataW H) → Bool := fun _ ds => decide (uptoBulkAll ds ≤ 1048576)
def OpenSpec.upto (s : _root_.Go.ChangeSpec) : _root_.Go.OpenSpec := { _root_.Go.OpenSpec.ofChange s with cond := some uptoSmall }

/-- 'hypocaustlaw11.TapeBegins', WHERE WHAT IT READS IS OF BULK AT MOST 1048576: true; the input reads as it did. -/
def tapeBeginsUptoRow : OpenClaim := { program := "yteikpbangjpilaa", sum := "95338c05d18614459df2d3ee166a750a2a6f4772f64f0e3a70062b73181f0758", func := "hypocaust/hypocaustlaw11.TapeBegins", spec := "tapeBegins", apart := false, narrowed := true }
def TapeBeginsUptoSaid : Prop := tapeBeginsUptoRow.holds Try.pinned (OpenSpec.upto tapeBeginsSpec)

/-- 'hypocaustlaw11.TapeCuts', WHERE WHAT IT READS IS OF BULK AT MOST 1048576: true; the input reads as it did. -/
def tapeCutsUptoRow : OpenClaim := { program := "yteikpbangjpilaa", sum := "95338c05d18614459df2d3ee166a750a2a6f4772f64f0e3a70062b73181f0758", func := "hypocaust/hypocaustlaw11.TapeCuts", spec := "tapeCuts", apart := false, narrowed := true }
def TapeCutsUptoSaid : Prop := tapeCutsUptoRow.holds Try.pinned (OpenSpec.upto tapeCutsSpec)

/-- 'hypocaustlaw11.TapeFull', WHERE WHAT IT READS IS OF BULK AT MOST 1048576: true; the input reads as it did. -/
def tapeFullUptoRow : OpenClaim := { program := "yteikpbangjpilaa", sum := "95338c05d18614459df2d3ee166a750a2a6f4772f64f0e3a70062b73181f0758", func := "hypocaust/hypocaustlaw11.TapeFull", spec := "tapeFull", apart := false, narrowed := true }
def TapeFullUptoSaid : Prop := tapeFullUptoRow.holds Try.pinned (OpenSpec.upto tapeFullSpec)

/-- 'hypocaustlaw11.TapePlays', WHERE WHAT IT READS IS OF BULK AT MOST 1048576: true; the input reads as it did. -/
def tapePlaysUptoRow : OpenClaim := { program := "yteikpbangjpilaa", sum := "95338c05d18614459df2d3ee166a750a2a6f4772f64f0e3a70062b73181f0758", func := "hypocaust/hypocaustlaw11.TapePlays", spec := "tapePlays", apart := false, narrowed := true }
def TapePlaysUptoSaid : Prop := tapePlaysUptoRow.holds Try.pinned (OpenSpec.upto tapePlaysSpec)

/-- 'hypocaustlaw7.DiskTears', WHERE WHAT IT READS IS OF BULK AT MOST 1048576: true; the input reads as it did. -/
def diskTearsUptoRow : OpenClaim := { program := "yteikpbangjpilaa", sum := "95338c05d18614459df2d3ee166a750a2a6f4772f64f0e3a70062b73181f0758", func := "hypocaust/hypocaustlaw7.DiskTears", spec := "diskTears", unfollowed := true, recurses := true, apart := false, narrowed := true }
def DiskTearsUptoSaid : Prop := diskTearsUptoRow.holds Try.pinned (OpenSpec.upto diskTearsSpec)

/-- 'hypocaustlaw7.DiskSynced', WHERE WHAT IT READS IS OF BULK AT MOST 1048576: true; the input reads as it did. -/
def diskSyncedUptoRow : OpenClaim := { program := "yteikpbangjpilaa", sum := "95338c05d18614459df2d3ee166a750a2a6f4772f64f0e3a70062b73181f0758", func := "hypocaust/hypocaustlaw7.DiskSynced", spec := "diskSynced", unfollowed := true, recurses := true, apart := false, narrowed := true }
def DiskSyncedUptoSaid : Prop := diskSyncedUptoRow.holds Try.pinned (OpenSpec.upto diskSyncedSpec)

/-- 'hypocaustlaw7.DiskFuses', WHERE WHAT IT READS IS OF BULK AT MOST 1048576: true; the input reads as it did. -/
def diskFusesUptoRow : OpenClaim := { program := "yteikpbangjpilaa", sum := "95338c05d18614459df2d3ee166a750a2a6f4772f64f0e3a70062b73181f0758", func := "hypocaust/hypocaustlaw7.DiskFuses", spec := "diskFuses", unfollowed := true, recurses := true, apart := false, narrowed := true }
def DiskFusesUptoSaid : Prop := diskFusesUptoRow.holds Try.pinned (OpenSpec.upto diskFusesSpec)

/-- 'hypocaustlaw7.DiskRots', WHERE WHAT IT READS IS OF BULK AT MOST 1048576: true; the input reads as it did. -/
def diskRotsUptoRow : OpenClaim := { program := "yteikpbangjpilaa", sum := "95338c05d18614459df2d3ee166a750a2a6f4772f64f0e3a70062b73181f0758", func := "hypocaust/hypocaustlaw7.DiskRots", spec := "diskRots", unfollowed := true, recurses := true, apart := false, narrowed := true }
def DiskRotsUptoSaid : Prop := diskRotsUptoRow.holds Try.pinned (OpenSpec.upto diskRotsSpec)

/-- 'hypocaustlaw7.DiskLost', WHERE WHAT IT READS IS OF BULK AT MOST 1048576: true; the input reads as it did. -/
def diskLostUptoRow : OpenClaim := { program := "yteikpbangjpilaa", sum := "95338c05d18614459df2d3ee166a750a2a6f4772f64f0e3a70062b73181f0758", func := "hypocaust/hypocaustlaw7.DiskLost", spec := "diskLost", unfollowed := true, recurses := true, apart := false, narrowed := true }
def DiskLostUptoSaid : Prop := diskLostUptoRow.holds Try.pinned (OpenSpec.upto diskLostSpec)

/-- 'hypocaustlaw7.DiskPlays', WHERE WHAT IT READS IS OF BULK AT MOST 1048576: true; the input reads as it did. -/
def diskPlaysUptoRow : OpenClaim := { program := "yteikpbangjpilaa", sum := "95338c05d18614459df2d3ee166a750a2a6f4772f64f0e3a70062b73181f0758", func := "hypocaust/hypocaustlaw7.DiskPlays", spec := "diskPlays", unfollowed := true, recurses := true, apart := false, narrowed := true }
def DiskPlaysUptoSaid : Prop := diskPlaysUptoRow.holds Try.pinned (OpenSpec.upto diskPlaysSpec)

end Rows
end Go.Proofs.Yteikpbangjpilaa
