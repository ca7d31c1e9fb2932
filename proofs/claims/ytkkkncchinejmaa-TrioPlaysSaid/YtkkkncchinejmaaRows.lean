/-
  No cell of these rows narrows 'for every input' (looked for: loops, veiled, ifaces, maps, wideKeys, modest, calm, conditions, laid).
  DERIVED. THE GIVEN ROWS OF THIS SEAT. 7 by the template 'for every input the law returns true; each argument reads behind the call as it read before'; 0 by the template 'total and deterministic' (their statements: YtkkkncchinejmaaTotals.lean).
  GIVEN WITH THE SEED: the statements are not yours to turn. If you find one false, say at which input.
  Laid BY PROGRAM, IN A SANDBOX (cutbox-rows.mjs): the forced cells as the released guide's own fill.sh prints them over the translation 50d1e6e391bdee0f… (all of the seat's roots in one cut). By AI agents, Wed Nov 11 2026. No macro, syntax, notation, axiom, sorry.
-/
import Derived.Test.YtkkkncchinejmaaChecked
import GoSem.Claim
import GoSem.ClaimJoined
import GoSem.ClaimMapViews
import Derived.JoinedTies
import Derived.KernelRfl
namespace Go.Proofs.Ytkkkncchinejmaa
/- THE CELL 'sum', in the pinned program and in every row, IS THE sha256 OF THE DUMP (.gsa) THAT YtkkkncchinejmaaProg.lean LOADS. Nothing in Lean hashes anything: it is a label: what it is worth is what the hold of that sum in a sandbox is worth. -/
noncomputable def Try.pinned : Pinned := { name := "ytkkkncchinejmaa", sum := "50d1e6e391bdee0f522cdd851b4f71d21cb6aa4ab2320c1a786398935eee7c38", checked := Try.checked }
namespace Rows
def none {H : Type} : Left H := { results := [], args := [] }

/-- 'hypocaustlaw12.SplitBack': WHATEVER THE INPUT: true; the input reads as it did. -/
def splitBackSpec : ChangeSpec := { name := "splitBack", fn := fun _ => fun
  | [d1, d2] => { results := [.lit (.bool true)], args := [d1, d2] }
  | _ => none }
def splitBackRow : OpenClaim := { program := "ytkkkncchinejmaa", sum := "50d1e6e391bdee0f522cdd851b4f71d21cb6aa4ab2320c1a786398935eee7c38", func := "hypocaust/hypocaustlaw12.SplitBack", spec := "splitBack", apart := false }
def SplitBackSaid : Prop := splitBackRow.holds Try.pinned (OpenSpec.ofChange splitBackSpec)

/-- ITS FALSE NEIGHBOUR: 'it returns false'. Refute it at one input. -/
def splitBackWrong : ChangeSpec := { name := "splitBack", fn := fun _ => fun
  | [d1, d2] => { results := [.lit (.bool false)], args := [d1, d2] }
  | _ => none }
def SplitBackWrongFalsely : Prop := splitBackRow.holds Try.pinned (OpenSpec.ofChange splitBackWrong)

/-- 'hypocaustlaw12.SplitTells': WHATEVER THE INPUT: true; the input reads as it did. -/
def splitTellsSpec : ChangeSpec := { name := "splitTells", fn := fun _ => fun
  | [d1, d2, d3] => { results := [.lit (.bool true)], args := [d1, d2, d3] }
  | _ => none }
def splitTellsRow : OpenClaim := { program := "ytkkkncchinejmaa", sum := "50d1e6e391bdee0f522cdd851b4f71d21cb6aa4ab2320c1a786398935eee7c38", func := "hypocaust/hypocaustlaw12.SplitTells", spec := "splitTells", apart := false }
def SplitTellsSaid : Prop := splitTellsRow.holds Try.pinned (OpenSpec.ofChange splitTellsSpec)

/-- ITS FALSE NEIGHBOUR: 'it returns false'. Refute it at one input. -/
def splitTellsWrong : ChangeSpec := { name := "splitTells", fn := fun _ => fun
  | [d1, d2, d3] => { results := [.lit (.bool false)], args := [d1, d2, d3] }
  | _ => none }
def SplitTellsWrongFalsely : Prop := splitTellsRow.holds Try.pinned (OpenSpec.ofChange splitTellsWrong)

/-- 'hypocaustlaw12.TrioKeeps': WHATEVER THE INPUT: true; the input reads as it did. -/
def trioKeepsSpec : ChangeSpec := { name := "trioKeeps", fn := fun _ => fun
  | [d1, d2, d3, d4] => { results := [.lit (.bool true)], args := [d1, d2, d3, d4] }
  | _ => none }
def trioKeepsRow : OpenClaim := { program := "ytkkkncchinejmaa", sum := "50d1e6e391bdee0f522cdd851b4f71d21cb6aa4ab2320c1a786398935eee7c38", func := "hypocaust/hypocaustlaw12.TrioKeeps", spec := "trioKeeps", apart := false }
def TrioKeepsSaid : Prop := trioKeepsRow.holds Try.pinned (OpenSpec.ofChange trioKeepsSpec)

/-- ITS FALSE NEIGHBOUR: 'it returns false'. Refute it at one input. -/
def trioKeepsWrong : ChangeSpec := { name := "trioKeeps", fn := fun _ => fun
  | [d1, d2, d3, d4] => { results := [.lit (.bool false)], args := [d1, d2, d3, d4] }
  | _ => none }
def TrioKeepsWrongFalsely : Prop := trioKeepsRow.holds Try.pinned (OpenSpec.ofChange trioKeepsWrong)

/-- 'hypocaustlaw12.TrioOpens': WHATEVER THE INPUT: true; the input reads as it did. -/
def trioOpensSpec : ChangeSpec := { name := "trioOpens", fn := fun _ => fun
  | [d1, d2, d3, d4, d5] => { results := [.lit (.bool true)], args := [d1, d2, d3, d4, d5] }
  | _ => none }
def trioOpensRow : OpenClaim := { program := "ytkkkncchinejmaa", sum := "50d1e6e391bdee0f522cdd851b4f71d21cb6aa4ab2320c1a786398935eee7c38", func := "hypocaust/hypocaustlaw12.TrioOpens", spec := "trioOpens", apart := false }
def TrioOpensSaid : Prop := trioOpensRow.holds Try.pinned (OpenSpec.ofChange trioOpensSpec)

/-- ITS FALSE NEIGHBOUR: 'it returns false'. Refute it at one input. -/
def trioOpensWrong : ChangeSpec := { name := "trioOpens", fn := fun _ => fun
  | [d1, d2, d3, d4, d5] => { results := [.lit (.bool false)], args := [d1, d2, d3, d4, d5] }
  | _ => none }
def TrioOpensWrongFalsely : Prop := trioOpensRow.holds Try.pinned (OpenSpec.ofChange trioOpensWrong)

/-- 'hypocaustlaw12.TrioMends': WHATEVER THE INPUT: true; the input reads as it did. -/
def trioMendsSpec : ChangeSpec := { name := "trioMends", fn := fun _ => fun
  | [d1, d2, d3, d4] => { results := [.lit (.bool true)], args := [d1, d2, d3, d4] }
  | _ => none }
def trioMendsRow : OpenClaim := { program := "ytkkkncchinejmaa", sum := "50d1e6e391bdee0f522cdd851b4f71d21cb6aa4ab2320c1a786398935eee7c38", func := "hypocaust/hypocaustlaw12.TrioMends", spec := "trioMends", unfollowed := true, recurses := true, apart := false }
def TrioMendsSaid : Prop := trioMendsRow.holds Try.pinned (OpenSpec.ofChange trioMendsSpec)

/-- ITS FALSE NEIGHBOUR: 'it returns false'. Refute it at one input. -/
def trioMendsWrong : ChangeSpec := { name := "trioMends", fn := fun _ => fun
  | [d1, d2, d3, d4] => { results := [.lit (.bool false)], args := [d1, d2, d3, d4] }
  | _ => none }
def TrioMendsWrongFalsely : Prop := trioMendsRow.holds Try.pinned (OpenSpec.ofChange trioMendsWrong)

/-- 'hypocaustlaw12.TrioTwo': WHATEVER THE INPUT: true; the input reads as it did. -/
def trioTwoSpec : ChangeSpec := { name := "trioTwo", fn := fun _ => fun
  | [d1, d2] => { results := [.lit (.bool true)], args := [d1, d2] }
  | _ => none }
def trioTwoRow : OpenClaim := { program := "ytkkkncchinejmaa", sum := "50d1e6e391bdee0f522cdd851b4f71d21cb6aa4ab2320c1a786398935eee7c38", func := "hypocaust/hypocaustlaw12.TrioTwo", spec := "trioTwo", apart := false }
def TrioTwoSaid : Prop := trioTwoRow.holds Try.pinned (OpenSpec.ofChange trioTwoSpec)

/-- ITS FALSE NEIGHBOUR: 'it returns false'. Refute it at one input. -/
def trioTwoWrong : ChangeSpec := { name := "trioTwo", fn := fun _ => fun
  | [d1, d2] => { results := [.lit (.bool false)], args := [d1, d2] }
  | _ => none }
def TrioTwoWrongFalsely : Prop := trioTwoRow.holds Try.pinned (OpenSpec.ofChange trioTwoWrong)

/-- 'hypocaustlaw12.TrioPlays': WHATEVER THE INPUT: true; the input reads as it did. -/
def trioPlaysSpec : ChangeSpec := { name := "trioPlays", fn := fun _ => fun
  | [d1, d2] => { results := [.lit (.bool true)], args := [d1, d2] }
  | _ => none }
def trioPlaysRow : OpenClaim := { program := "ytkkkncchinejmaa", sum := "50d1e6e391bdee0f522cdd851b4f71d21cb6aa4ab2320c1a786398935eee7c38", func := "hypocaust/hypocaustlaw12.TrioPlays", spec := "trioPlays", apart := false }
def TrioPlaysSaid : Prop := trioPlaysRow.holds Try.pinned (OpenSpec.ofChange trioPlaysSpec)

/-- ITS FALSE NEIGHBOUR: 'it returns false'. Refute it at one input. -/
def trioPlaysWrong : ChangeSpec := { name := "trioPlays", fn := fun _ => fun
  | [d1, d2] => { results := [.lit (.bool false)], args := [d1, d2] }
  | _ => none }
def TrioPlaysWrongFalsely : Prop := trioPlaysRow.holds Try.pinned (OpenSpec.ofChange trioPlaysWrong)

/- THE SECOND FORM. 'bulk': how many values and letters a reading holds, each counted each time it is reached (what is shared counts as often as it is met; a slice's spare places count too). A statement '..UptoSaid' is the law's where the arguments, and the package variables that the reading takes, are together of bulk at most 1048576: NARROWER than '..Said'. Prove '..Said' where nothing that the law and all that it calls make is longer than what came in: it says more and counts as full. Else prove '..UptoSaid'. A law counts once. -/
mutual
def uptoBulk {H : Type} : DataW H → Nat
  | .lit (.string bytes) => bytes.length + 1
  | .lit _ => 1
  | .nil => 1
  | .ptr d => uptoBulk d + 1
  | .slice elems spare => uptoBulkAll elems + uptoBulkAll spare + 1
  | .agg parts => uptoBulkAll parts + 1
  | .iface _ d => uptoBulk d + 1
  | .map entries => uptoBulkEntries entries + 1
  | .held _ => 1
def uptoBulkAll {H : Type} : List (DataW H) → Nat
  | [] => 0
  | d :: r => uptoBulk d + uptoBulkAll r
def uptoBulkEntries {H : Type} : List (Lit × DataW H) → Nat
  | [] => 0
  | x :: r => uptoBulkEntry x + uptoBulkEntries r
def uptoBulkEntry {H : Type} : Lit × DataW H → Nat
  | (.string bytes, d) => bytes.length + uptoBulk d + 1
  | (_, d) => uptoBulk d + 1
 end
def uptoSmall : (H : Type) → List (DataW H) → Bool := fun _ ds => decide (uptoBulkAll ds ≤ 1048576)
def OpenSpec.upto (s : _root_.Go.ChangeSpec) : _root_.Go.OpenSpec := { _root_.Go.OpenSpec.ofChange s with cond := some uptoSmall }

/-- 'hypocaustlaw12.SplitBack', WHERE WHAT IT READS IS OF BULK AT MOST 1048576: true; the input reads as it did. -/
def splitBackUptoRow : OpenClaim := { program := "ytkkkncchinejmaa", sum := "50d1e6e391bdee0f522cdd851b4f71d21cb6aa4ab2320c1a786398935eee7c38", func := "hypocaust/hypocaustlaw12.SplitBack", spec := "splitBack", apart := false, narrowed := true }
def SplitBackUptoSaid : Prop := splitBackUptoRow.holds Try.pinned (OpenSpec.upto splitBackSpec)

/-- 'hypocaustlaw12.SplitTells', WHERE WHAT IT READS IS OF BULK AT MOST 1048576: true; the input reads as it did. -/
def splitTellsUptoRow : OpenClaim := { program := "ytkkkncchinejmaa", sum := "50d1e6e391bdee0f522cdd851b4f71d21cb6aa4ab2320c1a786398935eee7c38", func := "hypocaust/hypocaustlaw12.SplitTells", spec := "splitTells", apart := false, narrowed := true }
def SplitTellsUptoSaid : Prop := splitTellsUptoRow.holds Try.pinned (OpenSpec.upto splitTellsSpec)

/-- 'hypocaustlaw12.TrioKeeps', WHERE WHAT IT READS IS OF BULK AT MOST 1048576: true; the input reads as it did. -/
def trioKeepsUptoRow : OpenClaim := { program := "ytkkkncchinejmaa", sum := "50d1e6e391bdee0f522cdd851b4f71d21cb6aa4ab2320c1a786398935eee7c38", func := "hypocaust/hypocaustlaw12.TrioKeeps", spec := "trioKeeps", apart := false, narrowed := true }
def TrioKeepsUptoSaid : Prop := trioKeepsUptoRow.holds Try.pinned (OpenSpec.upto trioKeepsSpec)

/-- 'hypocaustlaw12.TrioOpens', WHERE WHAT IT READS IS OF BULK AT MOST 1048576: true; the input reads as it did. -/
def trioOpensUptoRow : OpenClaim := { program := "ytkkkncchinejmaa", sum := "50d1e6e391bdee0f522cdd851b4f71d21cb6aa4ab2320c1a786398935eee7c38", func := "hypocaust/hypocaustlaw12.TrioOpens", spec := "trioOpens", apart := false, narrowed := true }
def TrioOpensUptoSaid : Prop := trioOpensUptoRow.holds Try.pinned (OpenSpec.upto trioOpensSpec)

/-- 'hypocaustlaw12.TrioMends', WHERE WHAT IT READS IS OF BULK AT MOST 1048576: true; the input reads as it did. -/
def trioMendsUptoRow : OpenClaim := { program := "ytkkkncchinejmaa", sum := "50d1e6e391bdee0f522cdd851b4f71d21cb6aa4ab2320c1a786398935eee7c38", func := "hypocaust/hypocaustlaw12.TrioMends", spec := "trioMends", unfollowed := true, recurses := true, apart := false, narrowed := true }
def TrioMendsUptoSaid : Prop := trioMendsUptoRow.holds Try.pinned (OpenSpec.upto trioMendsSpec)

/-- 'hypocaustlaw12.TrioTwo', WHERE WHAT IT READS IS OF BULK AT MOST 1048576: true; the input reads as it did. -/
def trioTwoUptoRow : OpenClaim := { program := "ytkkkncchinejmaa", sum := "50d1e6e391bdee0f522cdd851b4f71d21cb6aa4ab2320c1a786398935eee7c38", func := "hypocaust/hypocaustlaw12.TrioTwo", spec := "trioTwo", apart := false, narrowed := true }
def TrioTwoUptoSaid : Prop := trioTwoUptoRow.holds Try.pinned (OpenSpec.upto trioTwoSpec)

/-- 'hypocaustlaw12.TrioPlays', WHERE WHAT IT READS IS OF BULK AT MOST 1048576: true; the input reads as it did. -/
def trioPlaysUptoRow : OpenClaim := { program := "ytkkkncchinejmaa", sum := "50d1e6e391bdee0f522cdd851b4f71d21cb6aa4ab2320c1a786398935eee7c38", func := "hypocaust/hypocaustlaw12.TrioPlays", spec := "trioPlays", apart := false, narrowed := true }
def TrioPlaysUptoSaid : Prop := trioPlaysUptoRow.holds Try.pinned (OpenSpec.upto trioPlaysSpec)

end Rows
end Go.Proofs.Ytkkkncchinejmaa
