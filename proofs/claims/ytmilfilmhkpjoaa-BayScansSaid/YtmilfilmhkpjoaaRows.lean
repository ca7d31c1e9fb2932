/-
  No cell of these rows narrows 'for every input' (looked for: loops, veiled, ifaces, maps, wideKeys, modest, calm, conditions, laid).
  DERIVED. THE GIVEN ROWS OF THIS SEAT. 9 by the template 'for every input the law returns true; each argument reads behind the call as it read before'; 0 by the template 'total and deterministic' (their statements: YtmilfilmhkpjoaaTotals.lean).
  GIVEN WITH THE SEED: the statements are not yours to turn. If you find one false, say at which input.
  Laid BY PROGRAM, IN A SANDBOX (cutbox-rows.mjs): the forced cells as the released guide's own fill.sh prints them over the translation 098341268180c520… (all of the seat's roots in one cut). By AI agents, Wed Nov 11 2026. No macro, syntax, notation, axiom, sorry.
-/
import Derived.Test.YtmilfilmhkpjoaaChecked
import GoSem.Claim
import GoSem.ClaimJoined
import GoSem.ClaimMapViews
import Derived.JoinedTies
import Derived.KernelRfl
namespace Go.Proofs.Ytmilfilmhkpjoaa
/- THE CELL 'sum', in the pinned program and in every row, IS THE sha256 OF THE DUMP (.gsa) THAT YtmilfilmhkpjoaaProg.lean LOADS. Nothing in Lean hashes anything: it is a label: what it is worth is what the hold of that sum in a sandbox is worth. -/
noncomputable def Try.pinned : Pinned := { name := "ytmilfilmhkpjoaa", sum := "098341268180c52077894a6b229136b8960a89477fb81f070072eaa17da3d87a", checked := Try.checked }
namespace Rows
def none {H : Type} : Left H := { results := [], args := [] }

/-- 'hypocaustlaw9.BayHolds': WHATEVER THE INPUT: true; the input reads as it did. -/
def bayHoldsSpec : ChangeSpec := { name := "bayHolds", fn := fun _ => fun
  | [d] => { results := [.lit (.bool true)], args := [d] }
  | _ => none }
def bayHoldsRow : OpenClaim := { program := "ytmilfilmhkpjoaa", sum := "098341268180c52077894a6b229136b8960a89477fb81f070072eaa17da3d87a", func := "hypocaust/hypocaustlaw9.BayHolds", spec := "bayHolds", unfollowed := true, recurses := true, apart := false }
def BayHoldsSaid : Prop := bayHoldsRow.holds Try.pinned (OpenSpec.ofChange bayHoldsSpec)

/-- ITS FALSE NEIGHBOUR: 'it returns false'. Refute it at one input. -/
def bayHoldsWrong : ChangeSpec := { name := "bayHolds", fn := fun _ => fun
  | [d] => { results := [.lit (.bool false)], args := [d] }
  | _ => none }
def BayHoldsWrongFalsely : Prop := bayHoldsRow.holds Try.pinned (OpenSpec.ofChange bayHoldsWrong)

/-- 'hypocaustlaw9.BayTakes': WHATEVER THE INPUT: true; the input reads as it did. -/
def bayTakesSpec : ChangeSpec := { name := "bayTakes", fn := fun _ => fun
  | [d1, d2] => { results := [.lit (.bool true)], args := [d1, d2] }
  | _ => none }
def bayTakesRow : OpenClaim := { program := "ytmilfilmhkpjoaa", sum := "098341268180c52077894a6b229136b8960a89477fb81f070072eaa17da3d87a", func := "hypocaust/hypocaustlaw9.BayTakes", spec := "bayTakes", unfollowed := true, recurses := true, apart := false }
def BayTakesSaid : Prop := bayTakesRow.holds Try.pinned (OpenSpec.ofChange bayTakesSpec)

/-- ITS FALSE NEIGHBOUR: 'it returns false'. Refute it at one input. -/
def bayTakesWrong : ChangeSpec := { name := "bayTakes", fn := fun _ => fun
  | [d1, d2] => { results := [.lit (.bool false)], args := [d1, d2] }
  | _ => none }
def BayTakesWrongFalsely : Prop := bayTakesRow.holds Try.pinned (OpenSpec.ofChange bayTakesWrong)

/-- 'hypocaustlaw9.BayReads': WHATEVER THE INPUT: true; the input reads as it did. -/
def bayReadsSpec : ChangeSpec := { name := "bayReads", fn := fun _ => fun
  | [d1, d2, d3, d4, d5] => { results := [.lit (.bool true)], args := [d1, d2, d3, d4, d5] }
  | _ => none }
def bayReadsRow : OpenClaim := { program := "ytmilfilmhkpjoaa", sum := "098341268180c52077894a6b229136b8960a89477fb81f070072eaa17da3d87a", func := "hypocaust/hypocaustlaw9.BayReads", spec := "bayReads", unfollowed := true, recurses := true, apart := false }
def BayReadsSaid : Prop := bayReadsRow.holds Try.pinned (OpenSpec.ofChange bayReadsSpec)

/-- ITS FALSE NEIGHBOUR: 'it returns false'. Refute it at one input. -/
def bayReadsWrong : ChangeSpec := { name := "bayReads", fn := fun _ => fun
  | [d1, d2, d3, d4, d5] => { results := [.lit (.bool false)], args := [d1, d2, d3, d4, d5] }
  | _ => none }
def BayReadsWrongFalsely : Prop := bayReadsRow.holds Try.pinned (OpenSpec.ofChange bayReadsWrong)

/-- 'hypocaustlaw9.BayScans': WHATEVER THE INPUT: true; the input reads as it did. -/
def bayScansSpec : ChangeSpec := { name := "bayScans", fn := fun _ => fun
  | [d1, d2, d3] => { results := [.lit (.bool true)], args := [d1, d2, d3] }
  | _ => none }
def bayScansRow : OpenClaim := { program := "ytmilfilmhkpjoaa", sum := "098341268180c52077894a6b229136b8960a89477fb81f070072eaa17da3d87a", func := "hypocaust/hypocaustlaw9.BayScans", spec := "bayScans", unfollowed := true, recurses := true, apart := false }
def BayScansSaid : Prop := bayScansRow.holds Try.pinned (OpenSpec.ofChange bayScansSpec)

/-- ITS FALSE NEIGHBOUR: 'it returns false'. Refute it at one input. -/
def bayScansWrong : ChangeSpec := { name := "bayScans", fn := fun _ => fun
  | [d1, d2, d3] => { results := [.lit (.bool false)], args := [d1, d2, d3] }
  | _ => none }
def BayScansWrongFalsely : Prop := bayScansRow.holds Try.pinned (OpenSpec.ofChange bayScansWrong)

/-- 'hypocaustlaw10.RackEven': WHATEVER THE INPUT: true; the input reads as it did. -/
def rackEvenSpec : ChangeSpec := { name := "rackEven", fn := fun _ => fun
  | [d1, d2] => { results := [.lit (.bool true)], args := [d1, d2] }
  | _ => none }
def rackEvenRow : OpenClaim := { program := "ytmilfilmhkpjoaa", sum := "098341268180c52077894a6b229136b8960a89477fb81f070072eaa17da3d87a", func := "hypocaust/hypocaustlaw10.RackEven", spec := "rackEven", unfollowed := true, recurses := true, apart := false }
def RackEvenSaid : Prop := rackEvenRow.holds Try.pinned (OpenSpec.ofChange rackEvenSpec)

/-- ITS FALSE NEIGHBOUR: 'it returns false'. Refute it at one input. -/
def rackEvenWrong : ChangeSpec := { name := "rackEven", fn := fun _ => fun
  | [d1, d2] => { results := [.lit (.bool false)], args := [d1, d2] }
  | _ => none }
def RackEvenWrongFalsely : Prop := rackEvenRow.holds Try.pinned (OpenSpec.ofChange rackEvenWrong)

/-- 'hypocaustlaw9.BayPlays': WHATEVER THE INPUT: true; the input reads as it did. -/
def bayPlaysSpec : ChangeSpec := { name := "bayPlays", fn := fun _ => fun
  | [d1, d2] => { results := [.lit (.bool true)], args := [d1, d2] }
  | _ => none }
def bayPlaysRow : OpenClaim := { program := "ytmilfilmhkpjoaa", sum := "098341268180c52077894a6b229136b8960a89477fb81f070072eaa17da3d87a", func := "hypocaust/hypocaustlaw9.BayPlays", spec := "bayPlays", unfollowed := true, recurses := true, apart := false }
def BayPlaysSaid : Prop := bayPlaysRow.holds Try.pinned (OpenSpec.ofChange bayPlaysSpec)

/-- ITS FALSE NEIGHBOUR: 'it returns false'. Refute it at one input. -/
def bayPlaysWrong : ChangeSpec := { name := "bayPlays", fn := fun _ => fun
  | [d1, d2] => { results := [.lit (.bool false)], args := [d1, d2] }
  | _ => none }
def BayPlaysWrongFalsely : Prop := bayPlaysRow.holds Try.pinned (OpenSpec.ofChange bayPlaysWrong)

/-- 'hypocaustlaw10.RackUnlike': WHATEVER THE INPUT: true; the input reads as it did. -/
def rackUnlikeSpec : ChangeSpec := { name := "rackUnlike", fn := fun _ => fun
  | [d1, d2] => { results := [.lit (.bool true)], args := [d1, d2] }
  | _ => none }
def rackUnlikeRow : OpenClaim := { program := "ytmilfilmhkpjoaa", sum := "098341268180c52077894a6b229136b8960a89477fb81f070072eaa17da3d87a", func := "hypocaust/hypocaustlaw10.RackUnlike", spec := "rackUnlike", unfollowed := true, recurses := true, apart := false }
def RackUnlikeSaid : Prop := rackUnlikeRow.holds Try.pinned (OpenSpec.ofChange rackUnlikeSpec)

/-- ITS FALSE NEIGHBOUR: 'it returns false'. Refute it at one input. -/
def rackUnlikeWrong : ChangeSpec := { name := "rackUnlike", fn := fun _ => fun
  | [d1, d2] => { results := [.lit (.bool false)], args := [d1, d2] }
  | _ => none }
def RackUnlikeWrongFalsely : Prop := rackUnlikeRow.holds Try.pinned (OpenSpec.ofChange rackUnlikeWrong)

/-- 'hypocaustlaw10.RackHolds': WHATEVER THE INPUT: true; the input reads as it did. -/
def rackHoldsSpec : ChangeSpec := { name := "rackHolds", fn := fun _ => fun
  | [d] => { results := [.lit (.bool true)], args := [d] }
  | _ => none }
def rackHoldsRow : OpenClaim := { program := "ytmilfilmhkpjoaa", sum := "098341268180c52077894a6b229136b8960a89477fb81f070072eaa17da3d87a", func := "hypocaust/hypocaustlaw10.RackHolds", spec := "rackHolds", unfollowed := true, recurses := true, apart := false }
def RackHoldsSaid : Prop := rackHoldsRow.holds Try.pinned (OpenSpec.ofChange rackHoldsSpec)

/-- ITS FALSE NEIGHBOUR: 'it returns false'. Refute it at one input. -/
def rackHoldsWrong : ChangeSpec := { name := "rackHolds", fn := fun _ => fun
  | [d] => { results := [.lit (.bool false)], args := [d] }
  | _ => none }
def RackHoldsWrongFalsely : Prop := rackHoldsRow.holds Try.pinned (OpenSpec.ofChange rackHoldsWrong)

/-- 'hypocaustlaw10.RackDead': WHATEVER THE INPUT: true; the input reads as it did. -/
def rackDeadSpec : ChangeSpec := { name := "rackDead", fn := fun _ => fun
  | [d1, d2] => { results := [.lit (.bool true)], args := [d1, d2] }
  | _ => none }
def rackDeadRow : OpenClaim := { program := "ytmilfilmhkpjoaa", sum := "098341268180c52077894a6b229136b8960a89477fb81f070072eaa17da3d87a", func := "hypocaust/hypocaustlaw10.RackDead", spec := "rackDead", unfollowed := true, recurses := true, apart := false }
def RackDeadSaid : Prop := rackDeadRow.holds Try.pinned (OpenSpec.ofChange rackDeadSpec)

/-- ITS FALSE NEIGHBOUR: 'it returns false'. Refute it at one input. -/
def rackDeadWrong : ChangeSpec := { name := "rackDead", fn := fun _ => fun
  | [d1, d2] => { results := [.lit (.bool false)], args := [d1, d2] }
  | _ => none }
def RackDeadWrongFalsely : Prop := rackDeadRow.holds Try.pinned (OpenSpec.ofChange rackDeadWrong)

/- THE SECOND FORM. 'bulk': how many values and letters a reading holds, each counted each time it is reached (what is shared counts as often as it is met; a slice's spare places count too). A statement '..UptoSaid' is the law's where the arguments, and the package variables that the reading takes, are together of bulk at most 1048576: NARROWER than '..Said'. Prove '..Said' where nothing that the law and all that it calls make is longer than what came in: it says more and counts as full. Else prove '..UptoSaid'. A law counts once. -/
mutual
def uptoBulk {H : Type} : DataW H → Nat
  | .lit (.string bytes) => bytes.length + 1
  | .lit _ => 1
  | .nil => 1
  | .ptr d => uptoBulk d + 1
  | .slice elems spare => uptoBulkAll elems + uptoBulkAll spare + 1
  | .agg parts => uptoBulkAll parts + 1
  | .iface _ d => uptoBulk d + 1
  | .map entries => uptoBulkEntries entries + 1
  | .held _ => 1
def uptoBulkAll {H : Type} : List (DataW H) → Nat
  | [] => 0
  | d :: r => uptoBulk d + uptoBulkAll r
def uptoBulkEntries {H : Type} : List (Lit × DataW H) → Nat
  | [] => 0
  | x :: r => uptoBulkEntry x + uptoBulkEntries r
def uptoBulkEntry {H : Type} : Lit × DataW H → Nat
  | (.string bytes, d) => bytes.length + uptoBulk d + 1
  | (_, d) => uptoBulk d + 1
 end
def uptoSmall : (H : Type) → List (DataW H) → Bool := fun _ ds => decide (uptoBulkAll ds ≤ 1048576)
def OpenSpec.upto (s : _root_.Go.ChangeSpec) : _root_.Go.OpenSpec := { _root_.Go.OpenSpec.ofChange s with cond := some uptoSmall }

/-- 'hypocaustlaw9.BayHolds', WHERE WHAT IT READS IS OF BULK AT MOST 1048576: true; the input reads as it did. -/
def bayHoldsUptoRow : OpenClaim := { program := "ytmilfilmhkpjoaa", sum := "098341268180c52077894a6b229136b8960a89477fb81f070072eaa17da3d87a", func := "hypocaust/hypocaustlaw9.BayHolds", spec := "bayHolds", unfollowed := true, recurses := true, apart := false, narrowed := true }
def BayHoldsUptoSaid : Prop := bayHoldsUptoRow.holds Try.pinned (OpenSpec.upto bayHoldsSpec)

/-- 'hypocaustlaw9.BayTakes', WHERE WHAT IT READS IS OF BULK AT MOST 1048576: true; the input reads as it did. -/
def bayTakesUptoRow : OpenClaim := { program := "ytmilfilmhkpjoaa", sum := "098341268180c52077894a6b229136b8960a89477fb81f070072eaa17da3d87a", func := "hypocaust/hypocaustlaw9.BayTakes", spec := "bayTakes", unfollowed := true, recurses := true, apart := false, narrowed := true }
def BayTakesUptoSaid : Prop := bayTakesUptoRow.holds Try.pinned (OpenSpec.upto bayTakesSpec)

/-- 'hypocaustlaw9.BayReads', WHERE WHAT IT READS IS OF BULK AT MOST 1048576: true; the input reads as it did. -/
def bayReadsUptoRow : OpenClaim := { program := "ytmilfilmhkpjoaa", sum := "098341268180c52077894a6b229136b8960a89477fb81f070072eaa17da3d87a", func := "hypocaust/hypocaustlaw9.BayReads", spec := "bayReads", unfollowed := true, recurses := true, apart := false, narrowed := true }
def BayReadsUptoSaid : Prop := bayReadsUptoRow.holds Try.pinned (OpenSpec.upto bayReadsSpec)

/-- 'hypocaustlaw9.BayScans', WHERE WHAT IT READS IS OF BULK AT MOST 1048576: true; the input reads as it did. -/
def bayScansUptoRow : OpenClaim := { program := "ytmilfilmhkpjoaa", sum := "098341268180c52077894a6b229136b8960a89477fb81f070072eaa17da3d87a", func := "hypocaust/hypocaustlaw9.BayScans", spec := "bayScans", unfollowed := true, recurses := true, apart := false, narrowed := true }
def BayScansUptoSaid : Prop := bayScansUptoRow.holds Try.pinned (OpenSpec.upto bayScansSpec)

/-- 'hypocaustlaw10.RackEven', WHERE WHAT IT READS IS OF BULK AT MOST 1048576: true; the input reads as it did. -/
def rackEvenUptoRow : OpenClaim := { program := "ytmilfilmhkpjoaa", sum := "098341268180c52077894a6b229136b8960a89477fb81f070072eaa17da3d87a", func := "hypocaust/hypocaustlaw10.RackEven", spec := "rackEven", unfollowed := true, recurses := true, apart := false, narrowed := true }
def RackEvenUptoSaid : Prop := rackEvenUptoRow.holds Try.pinned (OpenSpec.upto rackEvenSpec)

/-- 'hypocaustlaw9.BayPlays', WHERE WHAT IT READS IS OF BULK AT MOST 1048576: true; the input reads as it did. -/
def bayPlaysUptoRow : OpenClaim := { program := "ytmilfilmhkpjoaa", sum := "098341268180c52077894a6b229136b8960a89477fb81f070072eaa17da3d87a", func := "hypocaust/hypocaustlaw9.BayPlays", spec := "bayPlays", unfollowed := true, recurses := true, apart := false, narrowed := true }
def BayPlaysUptoSaid : Prop := bayPlaysUptoRow.holds Try.pinned (OpenSpec.upto bayPlaysSpec)

/-- 'hypocaustlaw10.RackUnlike', WHERE WHAT IT READS IS OF BULK AT MOST 1048576: true; the input reads as it did. -/
def rackUnlikeUptoRow : OpenClaim := { program := "ytmilfilmhkpjoaa", sum := "098341268180c52077894a6b229136b8960a89477fb81f070072eaa17da3d87a", func := "hypocaust/hypocaustlaw10.RackUnlike", spec := "rackUnlike", unfollowed := true, recurses := true, apart := false, narrowed := true }
def RackUnlikeUptoSaid : Prop := rackUnlikeUptoRow.holds Try.pinned (OpenSpec.upto rackUnlikeSpec)

/-- 'hypocaustlaw10.RackHolds', WHERE WHAT IT READS IS OF BULK AT MOST 1048576: true; the input reads as it did. -/
def rackHoldsUptoRow : OpenClaim := { program := "ytmilfilmhkpjoaa", sum := "098341268180c52077894a6b229136b8960a89477fb81f070072eaa17da3d87a", func := "hypocaust/hypocaustlaw10.RackHolds", spec := "rackHolds", unfollowed := true, recurses := true, apart := false, narrowed := true }
def RackHoldsUptoSaid : Prop := rackHoldsUptoRow.holds Try.pinned (OpenSpec.upto rackHoldsSpec)

/-- 'hypocaustlaw10.RackDead', WHERE WHAT IT READS IS OF BULK AT MOST 1048576: true; the input reads as it did. -/
def rackDeadUptoRow : OpenClaim := { program := "ytmilfilmhkpjoaa", sum := "098341268180c52077894a6b229136b8960a89477fb81f070072eaa17da3d87a", func := "hypocaust/hypocaustlaw10.RackDead", spec := "rackDead", unfollowed := true, recurses := true, apart := false, narrowed := true }
def RackDeadUptoSaid : Prop := rackDeadUptoRow.holds Try.pinned (OpenSpec.upto rackDeadSpec)

end Rows
end Go.Proofs.Ytmilfilmhkpjoaa
