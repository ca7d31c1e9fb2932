/-
  No cell of these rows narrows 'for every input' (looked for: loops, veiled, ifaces, maps, wideKeys, modest, calm, conditions, laid).
  DERIVED. THE GIVEN ROWS OF THIS SEAT. 12 by the template 'for every input the law returns true; each argument reads behind the call as it read before'; 0 by the template 'total and deterministic' (their statements: YtgpeckaimkbmoaaTotals.lean).
  GIVEN WITH THE SEED: the statements are not yours to turn. If you find one false, say at which input.
  Laid BY PROGRAM, IN A SANDBOX (cutbox-rows.mjs): the forced cells as the released guide's own fill.sh prints them over the translation a4dbcb508c5d3ca2… (all of the seat's roots in one cut). By AI agents, Wed Nov 11 2026. No macro, syntax, notation, axiom, sorry.
-/
import Derived.Test.YtgpeckaimkbmoaaChecked
import GoSem.Claim
import GoSem.ClaimJoined
import GoSem.ClaimMapViews
import Derived.JoinedTies
import Derived.KernelRfl
namespace Go.Proofs.Ytgpeckaimkbmoaa
/- THE CELL 'sum', in the pinned program and in every row, IS THE sha256 OF THE DUMP (.gsa) THAT YtgpeckaimkbmoaaProg.lean LOADS. Nothing in Lean hashes anything: it is a label: what it is worth is what the hold of that sum in a sandbox is worth. -/
noncomputable def Try.pinned : Pinned := { name := "ytgpeckaimkbmoaa", sum := "a4dbcb508c5d3ca2ddb6eae4462688a4e1b4abea59e72c15bd05a6441df97fe5", checked := Try.checked }
namespace Rows
def none {H : Type} : Left H := { results := [], args := [] }

/-- 'hypocaustlaw3.CrcSteps': WHATEVER THE INPUT: true; the input reads as it did. -/
def crcStepsSpec : ChangeSpec := { name := "crcSteps", fn := fun _ => fun
  | [d1, d2] => { results := [.lit (.bool true)], args := [d1, d2] }
  | _ => none }
def crcStepsRow : OpenClaim := { program := "ytgpeckaimkbmoaa", sum := "a4dbcb508c5d3ca2ddb6eae4462688a4e1b4abea59e72c15bd05a6441df97fe5", func := "hypocaust/hypocaustlaw3.CrcSteps", spec := "crcSteps", apart := false }
def CrcStepsSaid : Prop := crcStepsRow.holds Try.pinned (OpenSpec.ofChange crcStepsSpec)

/-- ITS FALSE NEIGHBOUR: 'it returns false'. Refute it at one input. -/
def crcStepsWrong : ChangeSpec := { name := "crcSteps", fn := fun _ => fun
  | [d1, d2] => { results := [.lit (.bool false)], args := [d1, d2] }
  | _ => none }
def CrcStepsWrongFalsely : Prop := crcStepsRow.holds Try.pinned (OpenSpec.ofChange crcStepsWrong)

/-- 'hypocaustlaw3.CrcTells': WHATEVER THE INPUT: true; the input reads as it did. -/
def crcTellsSpec : ChangeSpec := { name := "crcTells", fn := fun _ => fun
  | [d1, d2, d3, d4] => { results := [.lit (.bool true)], args := [d1, d2, d3, d4] }
  | _ => none }
def crcTellsRow : OpenClaim := { program := "ytgpeckaimkbmoaa", sum := "a4dbcb508c5d3ca2ddb6eae4462688a4e1b4abea59e72c15bd05a6441df97fe5", func := "hypocaust/hypocaustlaw3.CrcTells", spec := "crcTells", apart := false }
def CrcTellsSaid : Prop := crcTellsRow.holds Try.pinned (OpenSpec.ofChange crcTellsSpec)

/-- ITS FALSE NEIGHBOUR: 'it returns false'. Refute it at one input. -/
def crcTellsWrong : ChangeSpec := { name := "crcTells", fn := fun _ => fun
  | [d1, d2, d3, d4] => { results := [.lit (.bool false)], args := [d1, d2, d3, d4] }
  | _ => none }
def CrcTellsWrongFalsely : Prop := crcTellsRow.holds Try.pinned (OpenSpec.ofChange crcTellsWrong)

/-- 'hypocaustlaw3.CrcBits': WHATEVER THE INPUT: true; the input reads as it did. -/
def crcBitsSpec : ChangeSpec := { name := "crcBits", fn := fun _ => fun
  | [d1, d2, d3] => { results := [.lit (.bool true)], args := [d1, d2, d3] }
  | _ => none }
def crcBitsRow : OpenClaim := { program := "ytgpeckaimkbmoaa", sum := "a4dbcb508c5d3ca2ddb6eae4462688a4e1b4abea59e72c15bd05a6441df97fe5", func := "hypocaust/hypocaustlaw3.CrcBits", spec := "crcBits", apart := false }
def CrcBitsSaid : Prop := crcBitsRow.holds Try.pinned (OpenSpec.ofChange crcBitsSpec)

/-- ITS FALSE NEIGHBOUR: 'it returns false'. Refute it at one input. -/
def crcBitsWrong : ChangeSpec := { name := "crcBits", fn := fun _ => fun
  | [d1, d2, d3] => { results := [.lit (.bool false)], args := [d1, d2, d3] }
  | _ => none }
def CrcBitsWrongFalsely : Prop := crcBitsRow.holds Try.pinned (OpenSpec.ofChange crcBitsWrong)

/-- 'hypocaustlaw3.CrcSums': WHATEVER THE INPUT: true; the input reads as it did. -/
def crcSumsSpec : ChangeSpec := { name := "crcSums", fn := fun _ => fun
  | [d1, d2] => { results := [.lit (.bool true)], args := [d1, d2] }
  | _ => none }
def crcSumsRow : OpenClaim := { program := "ytgpeckaimkbmoaa", sum := "a4dbcb508c5d3ca2ddb6eae4462688a4e1b4abea59e72c15bd05a6441df97fe5", func := "hypocaust/hypocaustlaw3.CrcSums", spec := "crcSums", apart := false }
def CrcSumsSaid : Prop := crcSumsRow.holds Try.pinned (OpenSpec.ofChange crcSumsSpec)

/-- ITS FALSE NEIGHBOUR: 'it returns false'. Refute it at one input. -/
def crcSumsWrong : ChangeSpec := { name := "crcSums", fn := fun _ => fun
  | [d1, d2] => { results := [.lit (.bool false)], args := [d1, d2] }
  | _ => none }
def CrcSumsWrongFalsely : Prop := crcSumsRow.holds Try.pinned (OpenSpec.ofChange crcSumsWrong)

/-- 'hypocaustlaw6.PadParts': WHATEVER THE INPUT: true; the input reads as it did. -/
def padPartsSpec : ChangeSpec := { name := "padParts", fn := fun _ => fun
  | [d1, d2, d3] => { results := [.lit (.bool true)], args := [d1, d2, d3] }
  | _ => none }
def padPartsRow : OpenClaim := { program := "ytgpeckaimkbmoaa", sum := "a4dbcb508c5d3ca2ddb6eae4462688a4e1b4abea59e72c15bd05a6441df97fe5", func := "hypocaust/hypocaustlaw6.PadParts", spec := "padParts", apart := false }
def PadPartsSaid : Prop := padPartsRow.holds Try.pinned (OpenSpec.ofChange padPartsSpec)

/-- ITS FALSE NEIGHBOUR: 'it returns false'. Refute it at one input. -/
def padPartsWrong : ChangeSpec := { name := "padParts", fn := fun _ => fun
  | [d1, d2, d3] => { results := [.lit (.bool false)], args := [d1, d2, d3] }
  | _ => none }
def PadPartsWrongFalsely : Prop := padPartsRow.holds Try.pinned (OpenSpec.ofChange padPartsWrong)

/-- 'hypocaustlaw6.PadJoins': WHATEVER THE INPUT: true; the input reads as it did. -/
def padJoinsSpec : ChangeSpec := { name := "padJoins", fn := fun _ => fun
  | [d1, d2] => { results := [.lit (.bool true)], args := [d1, d2] }
  | _ => none }
def padJoinsRow : OpenClaim := { program := "ytgpeckaimkbmoaa", sum := "a4dbcb508c5d3ca2ddb6eae4462688a4e1b4abea59e72c15bd05a6441df97fe5", func := "hypocaust/hypocaustlaw6.PadJoins", spec := "padJoins", unfollowed := true, recurses := true, apart := false }
def PadJoinsSaid : Prop := padJoinsRow.holds Try.pinned (OpenSpec.ofChange padJoinsSpec)

/-- ITS FALSE NEIGHBOUR: 'it returns false'. Refute it at one input. -/
def padJoinsWrong : ChangeSpec := { name := "padJoins", fn := fun _ => fun
  | [d1, d2] => { results := [.lit (.bool false)], args := [d1, d2] }
  | _ => none }
def PadJoinsWrongFalsely : Prop := padJoinsRow.holds Try.pinned (OpenSpec.ofChange padJoinsWrong)

/-- 'hypocaustlaw8.FrameEnds': WHATEVER THE INPUT: true; the input reads as it did. -/
def frameEndsSpec : ChangeSpec := { name := "frameEnds", fn := fun _ => fun
  | [d1, d2] => { results := [.lit (.bool true)], args := [d1, d2] }
  | _ => none }
def frameEndsRow : OpenClaim := { program := "ytgpeckaimkbmoaa", sum := "a4dbcb508c5d3ca2ddb6eae4462688a4e1b4abea59e72c15bd05a6441df97fe5", func := "hypocaust/hypocaustlaw8.FrameEnds", spec := "frameEnds", apart := false }
def FrameEndsSaid : Prop := frameEndsRow.holds Try.pinned (OpenSpec.ofChange frameEndsSpec)

/-- ITS FALSE NEIGHBOUR: 'it returns false'. Refute it at one input. -/
def frameEndsWrong : ChangeSpec := { name := "frameEnds", fn := fun _ => fun
  | [d1, d2] => { results := [.lit (.bool false)], args := [d1, d2] }
  | _ => none }
def FrameEndsWrongFalsely : Prop := frameEndsRow.holds Try.pinned (OpenSpec.ofChange frameEndsWrong)

/-- 'hypocaustlaw8.FramePuts': WHATEVER THE INPUT: true; the input reads as it did. -/
def framePutsSpec : ChangeSpec := { name := "framePuts", fn := fun _ => fun
  | [d1, d2] => { results := [.lit (.bool true)], args := [d1, d2] }
  | _ => none }
def framePutsRow : OpenClaim := { program := "ytgpeckaimkbmoaa", sum := "a4dbcb508c5d3ca2ddb6eae4462688a4e1b4abea59e72c15bd05a6441df97fe5", func := "hypocaust/hypocaustlaw8.FramePuts", spec := "framePuts", apart := false }
def FramePutsSaid : Prop := framePutsRow.holds Try.pinned (OpenSpec.ofChange framePutsSpec)

/-- ITS FALSE NEIGHBOUR: 'it returns false'. Refute it at one input. -/
def framePutsWrong : ChangeSpec := { name := "framePuts", fn := fun _ => fun
  | [d1, d2] => { results := [.lit (.bool false)], args := [d1, d2] }
  | _ => none }
def FramePutsWrongFalsely : Prop := framePutsRow.holds Try.pinned (OpenSpec.ofChange framePutsWrong)

/-- 'hypocaustlaw8.FrameTakes': WHATEVER THE INPUT: true; the input reads as it did. -/
def frameTakesSpec : ChangeSpec := { name := "frameTakes", fn := fun _ => fun
  | [d1, d2, d3, d4, d5, d6, d7, d8] => { results := [.lit (.bool true)], args := [d1, d2, d3, d4, d5, d6, d7, d8] }
  | _ => none }
def frameTakesRow : OpenClaim := { program := "ytgpeckaimkbmoaa", sum := "a4dbcb508c5d3ca2ddb6eae4462688a4e1b4abea59e72c15bd05a6441df97fe5", func := "hypocaust/hypocaustlaw8.FrameTakes", spec := "frameTakes", apart := false }
def FrameTakesSaid : Prop := frameTakesRow.holds Try.pinned (OpenSpec.ofChange frameTakesSpec)

/-- ITS FALSE NEIGHBOUR: 'it returns false'. Refute it at one input. -/
def frameTakesWrong : ChangeSpec := { name := "frameTakes", fn := fun _ => fun
  | [d1, d2, d3, d4, d5, d6, d7, d8] => { results := [.lit (.bool false)], args := [d1, d2, d3, d4, d5, d6, d7, d8] }
  | _ => none }
def FrameTakesWrongFalsely : Prop := frameTakesRow.holds Try.pinned (OpenSpec.ofChange frameTakesWrong)

/-- 'hypocaustlaw8.FrameBits': WHATEVER THE INPUT: true; the input reads as it did. -/
def frameBitsSpec : ChangeSpec := { name := "frameBits", fn := fun _ => fun
  | [d1, d2, d3, d4, d5] => { results := [.lit (.bool true)], args := [d1, d2, d3, d4, d5] }
  | _ => none }
def frameBitsRow : OpenClaim := { program := "ytgpeckaimkbmoaa", sum := "a4dbcb508c5d3ca2ddb6eae4462688a4e1b4abea59e72c15bd05a6441df97fe5", func := "hypocaust/hypocaustlaw8.FrameBits", spec := "frameBits", apart := false }
def FrameBitsSaid : Prop := frameBitsRow.holds Try.pinned (OpenSpec.ofChange frameBitsSpec)

/-- ITS FALSE NEIGHBOUR: 'it returns false'. Refute it at one input. -/
def frameBitsWrong : ChangeSpec := { name := "frameBits", fn := fun _ => fun
  | [d1, d2, d3, d4, d5] => { results := [.lit (.bool false)], args := [d1, d2, d3, d4, d5] }
  | _ => none }
def FrameBitsWrongFalsely : Prop := frameBitsRow.holds Try.pinned (OpenSpec.ofChange frameBitsWrong)

/-- 'hypocaustlaw6.PadBack': WHATEVER THE INPUT: true; the input reads as it did. -/
def padBackSpec : ChangeSpec := { name := "padBack", fn := fun _ => fun
  | [d1, d2, d3, d4, d5] => { results := [.lit (.bool true)], args := [d1, d2, d3, d4, d5] }
  | _ => none }
def padBackRow : OpenClaim := { program := "ytgpeckaimkbmoaa", sum := "a4dbcb508c5d3ca2ddb6eae4462688a4e1b4abea59e72c15bd05a6441df97fe5", func := "hypocaust/hypocaustlaw6.PadBack", spec := "padBack", unfollowed := true, recurses := true, apart := false }
def PadBackSaid : Prop := padBackRow.holds Try.pinned (OpenSpec.ofChange padBackSpec)

/-- ITS FALSE NEIGHBOUR: 'it returns false'. Refute it at one input. -/
def padBackWrong : ChangeSpec := { name := "padBack", fn := fun _ => fun
  | [d1, d2, d3, d4, d5] => { results := [.lit (.bool false)], args := [d1, d2, d3, d4, d5] }
  | _ => none }
def PadBackWrongFalsely : Prop := padBackRow.holds Try.pinned (OpenSpec.ofChange padBackWrong)

/-- 'hypocaustlaw6.PadTells': WHATEVER THE INPUT: true; the input reads as it did. -/
def padTellsSpec : ChangeSpec := { name := "padTells", fn := fun _ => fun
  | [d1, d2] => { results := [.lit (.bool true)], args := [d1, d2] }
  | _ => none }
def padTellsRow : OpenClaim := { program := "ytgpeckaimkbmoaa", sum := "a4dbcb508c5d3ca2ddb6eae4462688a4e1b4abea59e72c15bd05a6441df97fe5", func := "hypocaust/hypocaustlaw6.PadTells", spec := "padTells", unfollowed := true, recurses := true, apart := false }
def PadTellsSaid : Prop := padTellsRow.holds Try.pinned (OpenSpec.ofChange padTellsSpec)

/-- ITS FALSE NEIGHBOUR: 'it returns false'. Refute it at one input. -/
def padTellsWrong : ChangeSpec := { name := "padTells", fn := fun _ => fun
  | [d1, d2] => { results := [.lit (.bool false)], args := [d1, d2] }
  | _ => none }
def PadTellsWrongFalsely : Prop := padTellsRow.holds Try.pinned (OpenSpec.ofChange padTellsWrong)

/- THE SECOND FORM. 'bulk': how many values and letters a reading holds, each counted each time it is reached (what is shared counts as often as it is met; a slice's spare places count too). A statement '..UptoSaid' is the law's where the arguments, and the package variables that the reading takes, are together of bulk at most 1048576: NARROWER than '..Said'. Prove '..Said' where nothing that the law and all that it calls make is longer than what came in: it says more and counts as full. Else prove '..UptoSaid'. A law counts once. -/
mutual
def uptoBulk {H : Type} : DataW H → Nat
  | .lit (.string bytes) => bytes.length + 1
  | .lit _ => 1
  | .nil => 1
  | .ptr d => uptoBulk d + 1
  | .slice elems spare => uptoBulkAll elems + uptoBulkAll spare + 1
  | .agg parts => uptoBulkAll parts + 1
  | .iface _ d => uptoBulk d + 1
  | .map entries => uptoBulkEntries entries + 1
  | .held _ => 1
def uptoBulkAll {H : Type} : List (DataW H) → Nat
  | [] => 0
  | d :: r => uptoBulk d + uptoBulkAll r
def uptoBulkEntries {H : Type} : List (Lit × DataW H) → Nat
  | [] => 0
  | x :: r => uptoBulkEntry x + uptoBulkEntries r
def uptoBulkEntry {H : Type} : Lit × DataW H → Nat
  | (.string bytes, d) => bytes.length + uptoBulk d + 1
  | (_, d) => uptoBulk d + 1
 end
def uptoSmall : (H : Type) → List (DataW H) → Bool := fun _ ds => decide (uptoBulkAll ds ≤ 1048576)
def OpenSpec.upto (s : _root_.Go.ChangeSpec) : _root_.Go.OpenSpec := { _root_.Go.OpenSpec.ofChange s with cond := some uptoSmall }

/-- 'hypocaustlaw3.CrcSteps', WHERE WHAT IT READS IS OF BULK AT MOST 1048576: true; the input reads as it did. -/
def crcStepsUptoRow : OpenClaim := { program := "ytgpeckaimkbmoaa", sum := "a4dbcb508c5d3ca2ddb6eae4462688a4e1b4abea59e72c15bd05a6441df97fe5", func := "hypocaust/hypocaustlaw3.CrcSteps", spec := "crcSteps", apart := false, narrowed := true }
def CrcStepsUptoSaid : Prop := crcStepsUptoRow.holds Try.pinned (OpenSpec.upto crcStepsSpec)

/-- 'hypocaustlaw3.CrcTells', WHERE WHAT IT READS IS OF BULK AT MOST 1048576: true; the input reads as it did. -/
def crcTellsUptoRow : OpenClaim := { program := "ytgpeckaimkbmoaa", sum := "a4dbcb508c5d3ca2ddb6eae4462688a4e1b4abea59e72c15bd05a6441df97fe5", func := "hypocaust/hypocaustlaw3.CrcTells", spec := "crcTells", apart := false, narrowed := true }
def CrcTellsUptoSaid : Prop := crcTellsUptoRow.holds Try.pinned (OpenSpec.upto crcTellsSpec)

/-- 'hypocaustlaw3.CrcBits', WHERE WHAT IT READS IS OF BULK AT MOST 1048576: true; the input reads as it did. -/
def crcBitsUptoRow : OpenClaim := { program := "ytgpeckaimkbmoaa", sum := "a4dbcb508c5d3ca2ddb6eae4462688a4e1b4abea59e72c15bd05a6441df97fe5", func := "hypocaust/hypocaustlaw3.CrcBits", spec := "crcBits", apart := false, narrowed := true }
def CrcBitsUptoSaid : Prop := crcBitsUptoRow.holds Try.pinned (OpenSpec.upto crcBitsSpec)

/-- 'hypocaustlaw3.CrcSums', WHERE WHAT IT READS IS OF BULK AT MOST 1048576: true; the input reads as it did. -/
def crcSumsUptoRow : OpenClaim := { program := "ytgpeckaimkbmoaa", sum := "a4dbcb508c5d3ca2ddb6eae4462688a4e1b4abea59e72c15bd05a6441df97fe5", func := "hypocaust/hypocaustlaw3.CrcSums", spec := "crcSums", apart := false, narrowed := true }
def CrcSumsUptoSaid : Prop := crcSumsUptoRow.holds Try.pinned (OpenSpec.upto crcSumsSpec)

/-- 'hypocaustlaw6.PadParts', WHERE WHAT IT READS IS OF BULK AT MOST 1048576: true; the input reads as it did. -/
def padPartsUptoRow : OpenClaim := { program := "ytgpeckaimkbmoaa", sum := "a4dbcb508c5d3ca2ddb6eae4462688a4e1b4abea59e72c15bd05a6441df97fe5", func := "hypocaust/hypocaustlaw6.PadParts", spec := "padParts", apart := false, narrowed := true }
def PadPartsUptoSaid : Prop := padPartsUptoRow.holds Try.pinned (OpenSpec.upto padPartsSpec)

/-- 'hypocaustlaw6.PadJoins', WHERE WHAT IT READS IS OF BULK AT MOST 1048576: true; the input reads as it did. -/
def padJoinsUptoRow : OpenClaim := { program := "ytgpeckaimkbmoaa", sum := "a4dbcb508c5d3ca2ddb6eae4462688a4e1b4abea59e72c15bd05a6441df97fe5", func := "hypocaust/hypocaustlaw6.PadJoins", spec := "padJoins", unfollowed := true, recurses := true, apart := false, narrowed := true }
def PadJoinsUptoSaid : Prop := padJoinsUptoRow.holds Try.pinned (OpenSpec.upto padJoinsSpec)

/-- 'hypocaustlaw8.FrameEnds', WHERE WHAT IT READS IS OF BULK AT MOST 1048576: true; the input reads as it did. -/
def frameEndsUptoRow : OpenClaim := { program := "ytgpeckaimkbmoaa", sum := "a4dbcb508c5d3ca2ddb6eae4462688a4e1b4abea59e72c15bd05a6441df97fe5", func := "hypocaust/hypocaustlaw8.FrameEnds", spec := "frameEnds", apart := false, narrowed := true }
def FrameEndsUptoSaid : Prop := frameEndsUptoRow.holds Try.pinned (OpenSpec.upto frameEndsSpec)

/-- 'hypocaustlaw8.FramePuts', WHERE WHAT IT READS IS OF BULK AT MOST 1048576: true; the input reads as it did. -/
def framePutsUptoRow : OpenClaim := { program := "ytgpeckaimkbmoaa", sum := "a4dbcb508c5d3ca2ddb6eae4462688a4e1b4abea59e72c15bd05a6441df97fe5", func := "hypocaust/hypocaustlaw8.FramePuts", spec := "framePuts", apart := false, narrowed := true }
def FramePutsUptoSaid : Prop := framePutsUptoRow.holds Try.pinned (OpenSpec.upto framePutsSpec)

/-- 'hypocaustlaw8.FrameTakes', WHERE WHAT IT READS IS OF BULK AT MOST 1048576: true; the input reads as it did. -/
def frameTakesUptoRow : OpenClaim := { program := "ytgpeckaimkbmoaa", sum := "a4dbcb508c5d3ca2ddb6eae4462688a4e1b4abea59e72c15bd05a6441df97fe5", func := "hypocaust/hypocaustlaw8.FrameTakes", spec := "frameTakes", apart := false, narrowed := true }
def FrameTakesUptoSaid : Prop := frameTakesUptoRow.holds Try.pinned (OpenSpec.upto frameTakesSpec)

/-- 'hypocaustlaw8.FrameBits', WHERE WHAT IT READS IS OF BULK AT MOST 1048576: true; the input reads as it did. -/
def frameBitsUptoRow : OpenClaim := { program := "ytgpeckaimkbmoaa", sum := "a4dbcb508c5d3ca2ddb6eae4462688a4e1b4abea59e72c15bd05a6441df97fe5", func := "hypocaust/hypocaustlaw8.FrameBits", spec := "frameBits", apart := false, narrowed := true }
def FrameBitsUptoSaid : Prop := frameBitsUptoRow.holds Try.pinned (OpenSpec.upto frameBitsSpec)

/-- 'hypocaustlaw6.PadBack', WHERE WHAT IT READS IS OF BULK AT MOST 1048576: true; the input reads as it did. -/
def padBackUptoRow : OpenClaim := { program := "ytgpeckaimkbmoaa", sum := "a4dbcb508c5d3ca2ddb6eae4462688a4e1b4abea59e72c15bd05a6441df97fe5", func := "hypocaust/hypocaustlaw6.PadBack", spec := "padBack", unfollowed := true, recurses := true, apart := false, narrowed := true }
def PadBackUptoSaid : Prop := padBackUptoRow.holds Try.pinned (OpenSpec.upto padBackSpec)

/-- 'hypocaustlaw6.PadTells', WHERE WHAT IT READS IS OF BULK AT MOST 1048576: true; the input reads as it did. -/
def padTellsUptoRow : OpenClaim := { program := "ytgpeckaimkbmoaa", sum := "a4dbcb508c5d3ca2ddb6eae4462688a4e1b4abea59e72c15bd05a6441df97fe5", func := "hypocaust/hypocaustlaw6.PadTells", spec := "padTells", unfollowed := true, recurses := true, apart := false, narrowed := true }
def PadTellsUptoSaid : Prop := padTellsUptoRow.holds Try.pinned (OpenSpec.upto padTellsSpec)

end Rows
end Go.Proofs.Ytgpeckaimkbmoaa
