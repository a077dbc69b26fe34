/-
  No cell of these rows narrows 'for every input' (looked for: loops, veiled, ifaces, maps, wideKeys, modest, calm, conditions, laid).
  DERIVED. THE GIVEN ROWS OF THIS SEAT. 7 by the template 'for every input the law returns true; each argument reads behind the call as it read before'; 0 by the template 'total and deterministic' (their statements: YtniedfilhilhhaaTotals.lean).
  GIVEN WITH THE SEED: the statements are not yours to turn. If you find one false, say at which input.
  Laid BY PROGRAM, IN A SANDBOX (cutbox-rows.mjs): the forced cells as the released guide's own fill.sh prints them over the translation 3659c219528633ac… (all of the seat's roots in one cut). By AI agents, Wed Nov 11 2026. No macro, syntax, notation, axiom, sorry.
-/
import Derived.Test.YtniedfilhilhhaaChecked
import GoSem.Claim
import GoSem.ClaimJoined
import GoSem.ClaimMapViews
import Derived.JoinedTies
import Derived.KernelRfl
namespace Go.Proofs.Ytniedfilhilhhaa
/- THE CELL 'sum', in the pinned program and in every row, IS THE sha256 OF THE DUMP (.gsa) THAT YtniedfilhilhhaaProg.lean LOADS. Nothing in Lean hashes anything: it is a label: what it is worth is what the hold of that sum in a sandbox is worth. -/
noncomputable def Try.pinned : Pinned := { name := "ytniedfilhilhhaa", sum := "3659c219528633ac7a7ea3b7fe32df002c60a36a4360a2c82879e45168d313c3", checked := Try.checked }
namespace Rows
def none {H : Type} : Left H := { results := [], args := [] }

/-- 'baileelaw08.BlocksPlays': WHATEVER THE INPUT: true; the input reads as it did. -/
def blocksPlaysSpec : ChangeSpec := { name := "blocksPlays", fn := fun _ => fun
  | [d1, d2] => { results := [.lit (.bool true)], args := [d1, d2] }
  | _ => none }
def blocksPlaysRow : OpenClaim := { program := "ytniedfilhilhhaa", sum := "3659c219528633ac7a7ea3b7fe32df002c60a36a4360a2c82879e45168d313c3", func := "bailee/baileelaw08.BlocksPlays", spec := "blocksPlays", apart := false }
def BlocksPlaysSaid : Prop := blocksPlaysRow.holds Try.pinned (OpenSpec.ofChange blocksPlaysSpec)

/-- ITS FALSE NEIGHBOUR: 'it returns false'. Refute it at one input. -/
def blocksPlaysWrong : ChangeSpec := { name := "blocksPlays", fn := fun _ => fun
  | [d1, d2] => { results := [.lit (.bool false)], args := [d1, d2] }
  | _ => none }
def BlocksPlaysWrongFalsely : Prop := blocksPlaysRow.holds Try.pinned (OpenSpec.ofChange blocksPlaysWrong)

/-- 'baileelaw08.BlocksTorn': WHATEVER THE INPUT: true; the input reads as it did. -/
def blocksTornSpec : ChangeSpec := { name := "blocksTorn", fn := fun _ => fun
  | [d1, d2, d3, d4] => { results := [.lit (.bool true)], args := [d1, d2, d3, d4] }
  | _ => none }
def blocksTornRow : OpenClaim := { program := "ytniedfilhilhhaa", sum := "3659c219528633ac7a7ea3b7fe32df002c60a36a4360a2c82879e45168d313c3", func := "bailee/baileelaw08.BlocksTorn", spec := "blocksTorn", apart := false }
def BlocksTornSaid : Prop := blocksTornRow.holds Try.pinned (OpenSpec.ofChange blocksTornSpec)

/-- ITS FALSE NEIGHBOUR: 'it returns false'. Refute it at one input. -/
def blocksTornWrong : ChangeSpec := { name := "blocksTorn", fn := fun _ => fun
  | [d1, d2, d3, d4] => { results := [.lit (.bool false)], args := [d1, d2, d3, d4] }
  | _ => none }
def BlocksTornWrongFalsely : Prop := blocksTornRow.holds Try.pinned (OpenSpec.ofChange blocksTornWrong)

/-- 'baileelaw01.CodecBack': WHATEVER THE INPUT: true; the input reads as it did. -/
def codecBackSpec : ChangeSpec := { name := "codecBack", fn := fun _ => fun
  | [d] => { results := [.lit (.bool true)], args := [d] }
  | _ => none }
def codecBackRow : OpenClaim := { program := "ytniedfilhilhhaa", sum := "3659c219528633ac7a7ea3b7fe32df002c60a36a4360a2c82879e45168d313c3", func := "bailee/baileelaw01.CodecBack", spec := "codecBack", recurses := true, apart := false }
def CodecBackSaid : Prop := codecBackRow.holds Try.pinned (OpenSpec.ofChange codecBackSpec)

/-- ITS FALSE NEIGHBOUR: 'it returns false'. Refute it at one input. -/
def codecBackWrong : ChangeSpec := { name := "codecBack", fn := fun _ => fun
  | [d] => { results := [.lit (.bool false)], args := [d] }
  | _ => none }
def CodecBackWrongFalsely : Prop := codecBackRow.holds Try.pinned (OpenSpec.ofChange codecBackWrong)

/-- 'baileelaw01.CodecOne': WHATEVER THE INPUT: true; the input reads as it did. -/
def codecOneSpec : ChangeSpec := { name := "codecOne", fn := fun _ => fun
  | [d] => { results := [.lit (.bool true)], args := [d] }
  | _ => none }
def codecOneRow : OpenClaim := { program := "ytniedfilhilhhaa", sum := "3659c219528633ac7a7ea3b7fe32df002c60a36a4360a2c82879e45168d313c3", func := "bailee/baileelaw01.CodecOne", spec := "codecOne", apart := false }
def CodecOneSaid : Prop := codecOneRow.holds Try.pinned (OpenSpec.ofChange codecOneSpec)

/-- ITS FALSE NEIGHBOUR: 'it returns false'. Refute it at one input. -/
def codecOneWrong : ChangeSpec := { name := "codecOne", fn := fun _ => fun
  | [d] => { results := [.lit (.bool false)], args := [d] }
  | _ => none }
def CodecOneWrongFalsely : Prop := codecOneRow.holds Try.pinned (OpenSpec.ofChange codecOneWrong)

/-- 'baileelaw01.CodecMany': WHATEVER THE INPUT: true; the input reads as it did. -/
def codecManySpec : ChangeSpec := { name := "codecMany", fn := fun _ => fun
  | [d1, d2] => { results := [.lit (.bool true)], args := [d1, d2] }
  | _ => none }
def codecManyRow : OpenClaim := { program := "ytniedfilhilhhaa", sum := "3659c219528633ac7a7ea3b7fe32df002c60a36a4360a2c82879e45168d313c3", func := "bailee/baileelaw01.CodecMany", spec := "codecMany", apart := false }
def CodecManySaid : Prop := codecManyRow.holds Try.pinned (OpenSpec.ofChange codecManySpec)

/-- ITS FALSE NEIGHBOUR: 'it returns false'. Refute it at one input. -/
def codecManyWrong : ChangeSpec := { name := "codecMany", fn := fun _ => fun
  | [d1, d2] => { results := [.lit (.bool false)], args := [d1, d2] }
  | _ => none }
def CodecManyWrongFalsely : Prop := codecManyRow.holds Try.pinned (OpenSpec.ofChange codecManyWrong)

/-- 'baileelaw01.CodecOwn': WHATEVER THE INPUT: true; the input reads as it did. -/
def codecOwnSpec : ChangeSpec := { name := "codecOwn", fn := fun _ => fun
  | [d1, d2] => { results := [.lit (.bool true)], args := [d1, d2] }
  | _ => none }
def codecOwnRow : OpenClaim := { program := "ytniedfilhilhhaa", sum := "3659c219528633ac7a7ea3b7fe32df002c60a36a4360a2c82879e45168d313c3", func := "bailee/baileelaw01.CodecOwn", spec := "codecOwn", apart := false }
def CodecOwnSaid : Prop := codecOwnRow.holds Try.pinned (OpenSpec.ofChange codecOwnSpec)

/-- ITS FALSE NEIGHBOUR: 'it returns false'. Refute it at one input. -/
def codecOwnWrong : ChangeSpec := { name := "codecOwn", fn := fun _ => fun
  | [d1, d2] => { results := [.lit (.bool false)], args := [d1, d2] }
  | _ => none }
def CodecOwnWrongFalsely : Prop := codecOwnRow.holds Try.pinned (OpenSpec.ofChange codecOwnWrong)

/-- 'baileelaw01.CodecReads': WHATEVER THE INPUT: true; the input reads as it did. -/
def codecReadsSpec : ChangeSpec := { name := "codecReads", fn := fun _ => fun
  | [d1, d2] => { results := [.lit (.bool true)], args := [d1, d2] }
  | _ => none }
def codecReadsRow : OpenClaim := { program := "ytniedfilhilhhaa", sum := "3659c219528633ac7a7ea3b7fe32df002c60a36a4360a2c82879e45168d313c3", func := "bailee/baileelaw01.CodecReads", spec := "codecReads", apart := false }
def CodecReadsSaid : Prop := codecReadsRow.holds Try.pinned (OpenSpec.ofChange codecReadsSpec)

/-- ITS FALSE NEIGHBOUR: 'it returns false'. Refute it at one input. -/
def codecReadsWrong : ChangeSpec := { name := "codecReads", fn := fun _ => fun
  | [d1, d2] => { results := [.lit (.bool false)], args := [d1, d2] }
  | _ => none }
def CodecReadsWrongFalsely : Prop := codecReadsRow.holds Try.pinned (OpenSpec.ofChange codecReadsWrong)

/- THE SECOND FORM. 'bulk': how many values and letters a reading holds, each counted each time it is reached (what is shared counts as often as it is met; a slice's spare places count too). A statement '..UptoSaid' is the law's where the arguments, and the package variables that the reading takes, are together of bulk at most 1048576: NARROWER than '..Said'. Prove '..Said' where nothing that the law and all that it calls make is longer than what came in: it says more and counts as full. Else prove '..UptoSaid'. A law counts once. -/
mutual
def uptoBulk {H : Type} : DataW H → Nat
  | .lit (.string bytes) => bytes.length + 1
  | .lit _ => 1
  | .nil => 1
  | .ptr d => uptoBulk d + 1
  | .slice elems spare => uptoBulkAll elems + uptoBulkAll spare + 1
  | .agg parts => uptoBulkAll parts + 1
  | .iface _ d => uptoBulk d + 1
  | .map entries => uptoBulkEntries entries + 1
  | .held _ => 1
def uptoBulkAll {H : Type} : List (DataW H) → Nat
  | [] => 0
  | d :: r => uptoBulk d + uptoBulkAll r
def uptoBulkEntries {H : Type} : List (Lit × DataW H) → Nat
  | [] => 0
  | x :: r => uptoBulkEntry x + uptoBulkEntries r
def uptoBulkEntry {H : Type} : Lit × DataW H → Nat
  | (.string bytes, d) => bytes.length + uptoBulk d + 1
  | (_, d) => uptoBulk d + 1
 end
def uptoSmall : (H : Type) → List (DataW H) → Bool := fun _ ds => decide (uptoBulkAll ds ≤ 1048576)
def OpenSpec.upto (s : _root_.Go.ChangeSpec) : _root_.Go.OpenSpec := { _root_.Go.OpenSpec.ofChange s with cond := some uptoSmall }

/-- 'baileelaw08.BlocksPlays', WHERE WHAT IT READS IS OF BULK AT MOST 1048576: true; the input reads as it did. -/
def blocksPlaysUptoRow : OpenClaim := { program := "ytniedfilhilhhaa", sum := "3659c219528633ac7a7ea3b7fe32df002c60a36a4360a2c82879e45168d313c3", func := "bailee/baileelaw08.BlocksPlays", spec := "blocksPlays", apart := false, narrowed := true }
def BlocksPlaysUptoSaid : Prop := blocksPlaysUptoRow.holds Try.pinned (OpenSpec.upto blocksPlaysSpec)

/-- 'baileelaw08.BlocksTorn', WHERE WHAT IT READS IS OF BULK AT MOST 1048576: true; the input reads as it did. -/
def blocksTornUptoRow : OpenClaim := { program := "ytniedfilhilhhaa", sum := "3659c219528633ac7a7ea3b7fe32df002c60a36a4360a2c82879e45168d313c3", func := "bailee/baileelaw08.BlocksTorn", spec := "blocksTorn", apart := false, narrowed := true }
def BlocksTornUptoSaid : Prop := blocksTornUptoRow.holds Try.pinned (OpenSpec.upto blocksTornSpec)

/-- 'baileelaw01.CodecBack', WHERE WHAT IT READS IS OF BULK AT MOST 1048576: true; the input reads as it did. -/
def codecBackUptoRow : OpenClaim := { program := "ytniedfilhilhhaa", sum := "3659c219528633ac7a7ea3b7fe32df002c60a36a4360a2c82879e45168d313c3", func := "bailee/baileelaw01.CodecBack", spec := "codecBack", recurses := true, apart := false, narrowed := true }
def CodecBackUptoSaid : Prop := codecBackUptoRow.holds Try.pinned (OpenSpec.upto codecBackSpec)

/-- 'baileelaw01.CodecOne', WHERE WHAT IT READS IS OF BULK AT MOST 1048576: true; the input reads as it did. -/
def codecOneUptoRow : OpenClaim := { program := "ytniedfilhilhhaa", sum := "3659c219528633ac7a7ea3b7fe32df002c60a36a4360a2c82879e45168d313c3", func := "bailee/baileelaw01.CodecOne", spec := "codecOne", apart := false, narrowed := true }
def CodecOneUptoSaid : Prop := codecOneUptoRow.holds Try.pinned (OpenSpec.upto codecOneSpec)

/-- 'baileelaw01.CodecMany', WHERE WHAT IT READS IS OF BULK AT MOST 1048576: true; the input reads as it did. -/
def codecManyUptoRow : OpenClaim := { program := "ytniedfilhilhhaa", sum := "3659c219528633ac7a7ea3b7fe32df002c60a36a4360a2c82879e45168d313c3", func := "bailee/baileelaw01.CodecMany", spec := "codecMany", apart := false, narrowed := true }
def CodecManyUptoSaid : Prop := codecManyUptoRow.holds Try.pinned (OpenSpec.upto codecManySpec)

/-- 'baileelaw01.CodecOwn', WHERE WHAT IT READS IS OF BULK AT MOST 1048576: true; the input reads as it did. -/
def codecOwnUptoRow : OpenClaim := { program := "ytniedfilhilhhaa", sum := "3659c219528633ac7a7ea3b7fe32df002c60a36a4360a2c82879e45168d313c3", func := "bailee/baileelaw01.CodecOwn", spec := "codecOwn", apart := false, narrowed := true }
def CodecOwnUptoSaid : Prop := codecOwnUptoRow.holds Try.pinned (OpenSpec.upto codecOwnSpec)

/-- 'baileelaw01.CodecReads', WHERE WHAT IT READS IS OF BULK AT MOST 1048576: true; the input reads as it did. -/
def codecReadsUptoRow : OpenClaim := { program := "ytniedfilhilhhaa", sum := "3659c219528633ac7a7ea3b7fe32df002c60a36a4360a2c82879e45168d313c3", func := "bailee/baileelaw01.CodecReads", spec := "codecReads", apart := false, narrowed := true }
def CodecReadsUptoSaid : Prop := codecReadsUptoRow.holds Try.pinned (OpenSpec.upto codecReadsSpec)

end Rows
end Go.Proofs.Ytniedfilhilhhaa
