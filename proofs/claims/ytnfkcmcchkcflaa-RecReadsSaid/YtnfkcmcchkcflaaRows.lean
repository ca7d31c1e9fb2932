/-
  No cell of these rows narrows 'for every input' (looked for: loops, veiled, ifaces, maps, wideKeys, modest, calm, conditions, laid).
  DERIVED. THE GIVEN ROWS OF THIS SEAT. 4 by the template 'for every input the law returns true; each argument reads behind the call as it read before'; 0 by the template 'total and deterministic' (their statements: YtnfkcmcchkcflaaTotals.lean).
  GIVEN WITH THE SEED: the statements are not yours to turn. If you find one false, say at which input.
  Laid BY PROGRAM, IN A SANDBOX (cutbox-rows.mjs): the forced cells as the released guide's own fill.sh prints them over the translation 1b996a077b9d9970… (all of the seat's roots in one cut). By AI agents, Wed Nov 11 2026. No macro, syntax, notation, axiom, sorry.
-/
import Derived.Test.YtnfkcmcchkcflaaChecked
import GoSem.Claim
import GoSem.ClaimJoined
import GoSem.ClaimMapViews
import Derived.JoinedTies
import Derived.KernelRfl
namespace Go.Proofs.Ytnfkcmcchkcflaa
/- THE CELL 'sum', in the pinned program and in every row, IS THE sha256 OF THE DUMP (.gsa) THAT YtnfkcmcchkcflaaProg.lean LOADS. Nothing in Lean hashes anything: it is a label: what it is worth is what the hold of that sum in a sandbox is worth. -/
noncomputable def Try.pinned : Pinned := { name := "ytnfkcmcchkcflaa", sum := "1b996a077b9d99705e8833ae3835645653d841886c93d6fb74e1a6063247df85", checked := Try.checked }
namespace Rows
def none {H : Type} : Left H := { results := [], args := [] }

/-- 'hypocaustlaw13.RecBounds': WHATEVER THE INPUT: true; the input reads as it did. -/
def recBoundsSpec : ChangeSpec := { name := "recBounds", fn := fun _ => fun
  | [d1, d2, d3] => { results := [.lit (.bool true)], args := [d1, d2, d3] }
  | _ => none }
def recBoundsRow : OpenClaim := { program := "ytnfkcmcchkcflaa", sum := "1b996a077b9d99705e8833ae3835645653d841886c93d6fb74e1a6063247df85", func := "hypocaust/hypocaustlaw13.RecBounds", spec := "recBounds", unfollowed := true, recurses := true, apart := false }
def RecBoundsSaid : Prop := recBoundsRow.holds Try.pinned (OpenSpec.ofChange recBoundsSpec)

/-- ITS FALSE NEIGHBOUR: 'it returns false'. Refute it at one input. -/
def recBoundsWrong : ChangeSpec := { name := "recBounds", fn := fun _ => fun
  | [d1, d2, d3] => { results := [.lit (.bool false)], args := [d1, d2, d3] }
  | _ => none }
def RecBoundsWrongFalsely : Prop := recBoundsRow.holds Try.pinned (OpenSpec.ofChange recBoundsWrong)

/-- 'hypocaustlaw13.RecCodes': WHATEVER THE INPUT: true; the input reads as it did. -/
def recCodesSpec : ChangeSpec := { name := "recCodes", fn := fun _ => fun
  | [d1, d2] => { results := [.lit (.bool true)], args := [d1, d2] }
  | _ => none }
def recCodesRow : OpenClaim := { program := "ytnfkcmcchkcflaa", sum := "1b996a077b9d99705e8833ae3835645653d841886c93d6fb74e1a6063247df85", func := "hypocaust/hypocaustlaw13.RecCodes", spec := "recCodes", unfollowed := true, recurses := true, apart := false }
def RecCodesSaid : Prop := recCodesRow.holds Try.pinned (OpenSpec.ofChange recCodesSpec)

/-- ITS FALSE NEIGHBOUR: 'it returns false'. Refute it at one input. -/
def recCodesWrong : ChangeSpec := { name := "recCodes", fn := fun _ => fun
  | [d1, d2] => { results := [.lit (.bool false)], args := [d1, d2] }
  | _ => none }
def RecCodesWrongFalsely : Prop := recCodesRow.holds Try.pinned (OpenSpec.ofChange recCodesWrong)

/-- 'hypocaustlaw13.RecReads': WHATEVER THE INPUT: true; the input reads as it did. -/
def recReadsSpec : ChangeSpec := { name := "recReads", fn := fun _ => fun
  | [d1, d2, d3, d4, d5] => { results := [.lit (.bool true)], args := [d1, d2, d3, d4, d5] }
  | _ => none }
def recReadsRow : OpenClaim := { program := "ytnfkcmcchkcflaa", sum := "1b996a077b9d99705e8833ae3835645653d841886c93d6fb74e1a6063247df85", func := "hypocaust/hypocaustlaw13.RecReads", spec := "recReads", unfollowed := true, recurses := true, apart := false }
def RecReadsSaid : Prop := recReadsRow.holds Try.pinned (OpenSpec.ofChange recReadsSpec)

/-- ITS FALSE NEIGHBOUR: 'it returns false'. Refute it at one input. -/
def recReadsWrong : ChangeSpec := { name := "recReads", fn := fun _ => fun
  | [d1, d2, d3, d4, d5] => { results := [.lit (.bool false)], args := [d1, d2, d3, d4, d5] }
  | _ => none }
def RecReadsWrongFalsely : Prop := recReadsRow.holds Try.pinned (OpenSpec.ofChange recReadsWrong)

/-- 'hypocaustlaw13.RecOne': WHATEVER THE INPUT: true; the input reads as it did. -/
def recOneSpec : ChangeSpec := { name := "recOne", fn := fun _ => fun
  | [d1, d2, d3] => { results := [.lit (.bool true)], args := [d1, d2, d3] }
  | _ => none }
def recOneRow : OpenClaim := { program := "ytnfkcmcchkcflaa", sum := "1b996a077b9d99705e8833ae3835645653d841886c93d6fb74e1a6063247df85", func := "hypocaust/hypocaustlaw13.RecOne", spec := "recOne", unfollowed := true, recurses := true, apart := false }
def RecOneSaid : Prop := recOneRow.holds Try.pinned (OpenSpec.ofChange recOneSpec)

/-- ITS FALSE NEIGHBOUR: 'it returns false'. Refute it at one input. -/
def recOneWrong : ChangeSpec := { name := "recOne", fn := fun _ => fun
  | [d1, d2, d3] => { results := [.lit (.bool false)], args := [d1, d2, d3] }
  | _ => none }
def RecOneWrongFalsely : Prop := recOneRow.holds Try.pinned (OpenSpec.ofChange recOneWrong)

/- THE SECOND FORM. 'bulk': how many values and letters a reading holds, each counted each time it is reached (what is shared counts as often as it is met; a slice's spare places count too). A statement '..UptoSaid' is the law's where the arguments, and the package variables that the reading takes, are together of bulk at most 1048576: NARROWER than '..Said'. Prove '..Said' where nothing that the law and all that it calls make is longer than what came in: it says more and counts as full. Else prove '..UptoSaid'. A law counts once. -/
mutual
def uptoBulk {H : Type} : DataW H → Nat
  | .lit (.string bytes) => bytes.length + 1
  | .lit _ => 1
  | .nil => 1
  | .ptr d => uptoBulk d + 1
  | .slice elems spare => uptoBulkAll elems + uptoBulkAll spare + 1
  | .agg parts => uptoBulkAll parts + 1
  | .iface _ d => uptoBulk d + 1
  | .map entries => uptoBulkEntries entries + 1
  | .held _ => 1
def uptoBulkAll {H : Type} : List (DataW H) → Nat
  | [] => 0
  | d :: r => uptoBulk d + uptoBulkAll r
def uptoBulkEntries {H : Type} : List (Lit × DataW H) → Nat
  | [] => 0
  | x :: r => uptoBulkEntry x + uptoBulkEntries r
def uptoBulkEntry {H : Type} : Lit × DataW H → Nat
  | (.string bytes, d) => bytes.length + uptoBulk d + 1
  | (_, d) => uptoBulk d + 1
 end
def uptoSmall : (H : Type) → List (DataW H) → Bool := fun _ ds => decide (uptoBulkAll ds ≤ 1048576)
def OpenSpec.upto (s : _root_.Go.ChangeSpec) : _root_.Go.OpenSpec := { _root_.Go.OpenSpec.ofChange s with cond := some uptoSmall }

/-- 'hypocaustlaw13.RecBounds', WHERE WHAT IT READS IS OF BULK AT MOST 1048576: true; the input reads as it did. -/
def recBoundsUptoRow : OpenClaim := { program := "ytnfkcmcchkcflaa", sum := "1b996a077b9d99705e8833ae3835645653d841886c93d6fb74e1a6063247df85", func := "hypocaust/hypocaustlaw13.RecBounds", spec := "recBounds", unfollowed := true, recurses := true, apart := false, narrowed := true }
def RecBoundsUptoSaid : Prop := recBoundsUptoRow.holds Try.pinned (OpenSpec.upto recBoundsSpec)

/-- 'hypocaustlaw13.RecCodes', WHERE WHAT IT READS IS OF BULK AT MOST 1048576: true; the input reads as it did. -/
def recCodesUptoRow : OpenClaim := { program := "ytnfkcmcchkcflaa", sum := "1b996a077b9d99705e8833ae3835645653d841886c93d6fb74e1a6063247df85", func := "hypocaust/hypocaustlaw13.RecCodes", spec := "recCodes", unfollowed := true, recurses := true, apart := false, narrowed := true }
def RecCodesUptoSaid : Prop := recCodesUptoRow.holds Try.pinned (OpenSpec.upto recCodesSpec)

/-- 'hypocaustlaw13.RecReads', WHERE WHAT IT READS IS OF BULK AT MOST 1048576: true; the input reads as it did. -/
def recReadsUptoRow : OpenClaim := { program := "ytnfkcmcchkcflaa", sum := "1b996a077b9d99705e8833ae3835645653d841886c93d6fb74e1a6063247df85", func := "hypocaust/hypocaustlaw13.RecReads", spec := "recReads", unfollowed := true, recurses := true, apart := false, narrowed := true }
def RecReadsUptoSaid : Prop := recReadsUptoRow.holds Try.pinned (OpenSpec.upto recReadsSpec)

/-- 'hypocaustlaw13.RecOne', WHERE WHAT IT READS IS OF BULK AT MOST 1048576: true; the input reads as it did. -/
def recOneUptoRow : OpenClaim := { program := "ytnfkcmcchkcflaa", sum := "1b996a077b9d99705e8833ae3835645653d841886c93d6fb74e1a6063247df85", func := "hypocaust/hypocaustlaw13.RecOne", spec := "recOne", unfollowed := true, recurses := true, apart := false, narrowed := true }
def RecOneUptoSaid : Prop := recOneUptoRow.holds Try.pinned (OpenSpec.upto recOneSpec)

end Rows
end Go.Proofs.Ytnfkcmcchkcflaa
