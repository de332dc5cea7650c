/-
  No cell of these rows narrows 'for every input' (looked for: loops, veiled, ifaces, maps, wideKeys, modest, calm, conditions, laid).
  DERIVED. THE GIVEN ROWS OF THIS SEAT. 10 by the template 'for every input the law returns true; each argument reads behind the call as it read before'; 0 by the template 'total and deterministic' (their statements: YtmeampigomhdpaaTotals.lean).
  GIVEN WITH THE SEED: the statements are not yours to turn. If you find one false, say at which input.
  Laid BY PROGRAM, IN A SANDBOX (cutbox-rows.mjs): the forced cells as the released guide's own fill.sh prints them over the translation a6a9876ebe220398… (all of the seat's roots in one cut). By AI agents, Wed Nov 11 2026. No macro, syntax, notation, axiom, sorry.
-/
import Derived.Test.YtmeampigomhdpaaChecked
import GoSem.Claim
import GoSem.ClaimJoined
import GoSem.ClaimMapViews
import Derived.JoinedTies
import Derived.KernelRfl
namespace Go.Proofs.Ytmeampigomhdpaa
/- THE CELL 'sum', in the pinned program and in every row, IS THE sha256 OF THE DUMP (.gsa) THAT YtmeampigomhdpaaProg.lean LOADS. Nothing in Lean hashes anything: it is a label: what it is worth is what the hold of that sum in a sandbox is worth. -/
noncomputable def Try.pinned : Pinned := { name := "ytmeampigomhdpaa", sum := "a6a9876ebe220398350eeb9e3223ebcf96d8d7a4bf7203d562b84ef18106be7b", checked := Try.checked }
namespace Rows
def none {H : Type} : Left H := { results := [], args := [] }

/-- 'choraguslaw01.BitsForms': WHATEVER THE INPUT: true; the input reads as it did. -/
def bitsFormsSpec : ChangeSpec := { name := "bitsForms", fn := fun _ => fun
  | [d1, d2, d3] => { results := [.lit (.bool true)], args := [d1, d2, d3] }
  | _ => none }
def bitsFormsRow : OpenClaim := { program := "ytmeampigomhdpaa", sum := "a6a9876ebe220398350eeb9e3223ebcf96d8d7a4bf7203d562b84ef18106be7b", func := "choragus/choraguslaw01.BitsForms", spec := "bitsForms", apart := false }
def BitsFormsSaid : Prop := bitsFormsRow.holds Try.pinned (OpenSpec.ofChange bitsFormsSpec)

/-- ITS FALSE NEIGHBOUR: 'it returns false'. Refute it at one input. -/
def bitsFormsWrong : ChangeSpec := { name := "bitsForms", fn := fun _ => fun
  | [d1, d2, d3] => { results := [.lit (.bool false)], args := [d1, d2, d3] }
  | _ => none }
def BitsFormsWrongFalsely : Prop := bitsFormsRow.holds Try.pinned (OpenSpec.ofChange bitsFormsWrong)

/-- 'choraguslaw01.BitsTurns': WHATEVER THE INPUT: true; the input reads as it did. -/
def bitsTurnsSpec : ChangeSpec := { name := "bitsTurns", fn := fun _ => fun
  | [d1, d2] => { results := [.lit (.bool true)], args := [d1, d2] }
  | _ => none }
def bitsTurnsRow : OpenClaim := { program := "ytmeampigomhdpaa", sum := "a6a9876ebe220398350eeb9e3223ebcf96d8d7a4bf7203d562b84ef18106be7b", func := "choragus/choraguslaw01.BitsTurns", spec := "bitsTurns", apart := false }
def BitsTurnsSaid : Prop := bitsTurnsRow.holds Try.pinned (OpenSpec.ofChange bitsTurnsSpec)

/-- ITS FALSE NEIGHBOUR: 'it returns false'. Refute it at one input. -/
def bitsTurnsWrong : ChangeSpec := { name := "bitsTurns", fn := fun _ => fun
  | [d1, d2] => { results := [.lit (.bool false)], args := [d1, d2] }
  | _ => none }
def BitsTurnsWrongFalsely : Prop := bitsTurnsRow.holds Try.pinned (OpenSpec.ofChange bitsTurnsWrong)

/-- 'choraguslaw01.BitsSorts': WHATEVER THE INPUT: true; the input reads as it did. -/
def bitsSortsSpec : ChangeSpec := { name := "bitsSorts", fn := fun _ => fun
  | [d1, d2] => { results := [.lit (.bool true)], args := [d1, d2] }
  | _ => none }
def bitsSortsRow : OpenClaim := { program := "ytmeampigomhdpaa", sum := "a6a9876ebe220398350eeb9e3223ebcf96d8d7a4bf7203d562b84ef18106be7b", func := "choragus/choraguslaw01.BitsSorts", spec := "bitsSorts", apart := false }
def BitsSortsSaid : Prop := bitsSortsRow.holds Try.pinned (OpenSpec.ofChange bitsSortsSpec)

/-- ITS FALSE NEIGHBOUR: 'it returns false'. Refute it at one input. -/
def bitsSortsWrong : ChangeSpec := { name := "bitsSorts", fn := fun _ => fun
  | [d1, d2] => { results := [.lit (.bool false)], args := [d1, d2] }
  | _ => none }
def BitsSortsWrongFalsely : Prop := bitsSortsRow.holds Try.pinned (OpenSpec.ofChange bitsSortsWrong)

/-- 'choraguslaw01.BitsZigs': WHATEVER THE INPUT: true; the input reads as it did. -/
def bitsZigsSpec : ChangeSpec := { name := "bitsZigs", fn := fun _ => fun
  | [d1, d2] => { results := [.lit (.bool true)], args := [d1, d2] }
  | _ => none }
def bitsZigsRow : OpenClaim := { program := "ytmeampigomhdpaa", sum := "a6a9876ebe220398350eeb9e3223ebcf96d8d7a4bf7203d562b84ef18106be7b", func := "choragus/choraguslaw01.BitsZigs", spec := "bitsZigs", apart := false }
def BitsZigsSaid : Prop := bitsZigsRow.holds Try.pinned (OpenSpec.ofChange bitsZigsSpec)

/-- ITS FALSE NEIGHBOUR: 'it returns false'. Refute it at one input. -/
def bitsZigsWrong : ChangeSpec := { name := "bitsZigs", fn := fun _ => fun
  | [d1, d2] => { results := [.lit (.bool false)], args := [d1, d2] }
  | _ => none }
def BitsZigsWrongFalsely : Prop := bitsZigsRow.holds Try.pinned (OpenSpec.ofChange bitsZigsWrong)

/-- 'choraguslaw01.BitsTops': WHATEVER THE INPUT: true; the input reads as it did. -/
def bitsTopsSpec : ChangeSpec := { name := "bitsTops", fn := fun _ => fun
  | [d] => { results := [.lit (.bool true)], args := [d] }
  | _ => none }
def bitsTopsRow : OpenClaim := { program := "ytmeampigomhdpaa", sum := "a6a9876ebe220398350eeb9e3223ebcf96d8d7a4bf7203d562b84ef18106be7b", func := "choragus/choraguslaw01.BitsTops", spec := "bitsTops", apart := false }
def BitsTopsSaid : Prop := bitsTopsRow.holds Try.pinned (OpenSpec.ofChange bitsTopsSpec)

/-- ITS FALSE NEIGHBOUR: 'it returns false'. Refute it at one input. -/
def bitsTopsWrong : ChangeSpec := { name := "bitsTops", fn := fun _ => fun
  | [d] => { results := [.lit (.bool false)], args := [d] }
  | _ => none }
def BitsTopsWrongFalsely : Prop := bitsTopsRow.holds Try.pinned (OpenSpec.ofChange bitsTopsWrong)

/-- 'choraguslaw01.BitsReads': WHATEVER THE INPUT: true; the input reads as it did. -/
def bitsReadsSpec : ChangeSpec := { name := "bitsReads", fn := fun _ => fun
  | [d1, d2] => { results := [.lit (.bool true)], args := [d1, d2] }
  | _ => none }
def bitsReadsRow : OpenClaim := { program := "ytmeampigomhdpaa", sum := "a6a9876ebe220398350eeb9e3223ebcf96d8d7a4bf7203d562b84ef18106be7b", func := "choragus/choraguslaw01.BitsReads", spec := "bitsReads", apart := false }
def BitsReadsSaid : Prop := bitsReadsRow.holds Try.pinned (OpenSpec.ofChange bitsReadsSpec)

/-- ITS FALSE NEIGHBOUR: 'it returns false'. Refute it at one input. -/
def bitsReadsWrong : ChangeSpec := { name := "bitsReads", fn := fun _ => fun
  | [d1, d2] => { results := [.lit (.bool false)], args := [d1, d2] }
  | _ => none }
def BitsReadsWrongFalsely : Prop := bitsReadsRow.holds Try.pinned (OpenSpec.ofChange bitsReadsWrong)

/-- 'choraguslaw01.BitsShorts': WHATEVER THE INPUT: true; the input reads as it did. -/
def bitsShortsSpec : ChangeSpec := { name := "bitsShorts", fn := fun _ => fun
  | [d1, d2] => { results := [.lit (.bool true)], args := [d1, d2] }
  | _ => none }
def bitsShortsRow : OpenClaim := { program := "ytmeampigomhdpaa", sum := "a6a9876ebe220398350eeb9e3223ebcf96d8d7a4bf7203d562b84ef18106be7b", func := "choragus/choraguslaw01.BitsShorts", spec := "bitsShorts", apart := false }
def BitsShortsSaid : Prop := bitsShortsRow.holds Try.pinned (OpenSpec.ofChange bitsShortsSpec)

/-- ITS FALSE NEIGHBOUR: 'it returns false'. Refute it at one input. -/
def bitsShortsWrong : ChangeSpec := { name := "bitsShorts", fn := fun _ => fun
  | [d1, d2] => { results := [.lit (.bool false)], args := [d1, d2] }
  | _ => none }
def BitsShortsWrongFalsely : Prop := bitsShortsRow.holds Try.pinned (OpenSpec.ofChange bitsShortsWrong)

/-- 'choraguslaw01.BitsShortBack': WHATEVER THE INPUT: true; the input reads as it did. -/
def bitsShortBackSpec : ChangeSpec := { name := "bitsShortBack", fn := fun _ => fun
  | [d1, d2, d3] => { results := [.lit (.bool true)], args := [d1, d2, d3] }
  | _ => none }
def bitsShortBackRow : OpenClaim := { program := "ytmeampigomhdpaa", sum := "a6a9876ebe220398350eeb9e3223ebcf96d8d7a4bf7203d562b84ef18106be7b", func := "choragus/choraguslaw01.BitsShortBack", spec := "bitsShortBack", apart := false }
def BitsShortBackSaid : Prop := bitsShortBackRow.holds Try.pinned (OpenSpec.ofChange bitsShortBackSpec)

/-- ITS FALSE NEIGHBOUR: 'it returns false'. Refute it at one input. -/
def bitsShortBackWrong : ChangeSpec := { name := "bitsShortBack", fn := fun _ => fun
  | [d1, d2, d3] => { results := [.lit (.bool false)], args := [d1, d2, d3] }
  | _ => none }
def BitsShortBackWrongFalsely : Prop := bitsShortBackRow.holds Try.pinned (OpenSpec.ofChange bitsShortBackWrong)

/-- 'choraguslaw01.BitsHexes': WHATEVER THE INPUT: true; the input reads as it did. -/
def bitsHexesSpec : ChangeSpec := { name := "bitsHexes", fn := fun _ => fun
  | [d1, d2] => { results := [.lit (.bool true)], args := [d1, d2] }
  | _ => none }
def bitsHexesRow : OpenClaim := { program := "ytmeampigomhdpaa", sum := "a6a9876ebe220398350eeb9e3223ebcf96d8d7a4bf7203d562b84ef18106be7b", func := "choragus/choraguslaw01.BitsHexes", spec := "bitsHexes", inPlace := ["internal/bytealg.IndexByteString"], apart := false }
def BitsHexesSaid : Prop := bitsHexesRow.holds Try.pinned (OpenSpec.ofChange bitsHexesSpec)

/-- ITS FALSE NEIGHBOUR: 'it returns false'. Refute it at one input. -/
def bitsHexesWrong : ChangeSpec := { name := "bitsHexes", fn := fun _ => fun
  | [d1, d2] => { results := [.lit (.bool false)], args := [d1, d2] }
  | _ => none }
def BitsHexesWrongFalsely : Prop := bitsHexesRow.holds Try.pinned (OpenSpec.ofChange bitsHexesWrong)

/-- 'choraguslaw01.BitsBack': WHATEVER THE INPUT: true; the input reads as it did. -/
def bitsBackSpec : ChangeSpec := { name := "bitsBack", fn := fun _ => fun
  | [d1, d2] => { results := [.lit (.bool true)], args := [d1, d2] }
  | _ => none }
def bitsBackRow : OpenClaim := { program := "ytmeampigomhdpaa", sum := "a6a9876ebe220398350eeb9e3223ebcf96d8d7a4bf7203d562b84ef18106be7b", func := "choragus/choraguslaw01.BitsBack", spec := "bitsBack", apart := false }
def BitsBackSaid : Prop := bitsBackRow.holds Try.pinned (OpenSpec.ofChange bitsBackSpec)

/-- ITS FALSE NEIGHBOUR: 'it returns false'. Refute it at one input. -/
def bitsBackWrong : ChangeSpec := { name := "bitsBack", fn := fun _ => fun
  | [d1, d2] => { results := [.lit (.bool false)], args := [d1, d2] }
  | _ => none }
def BitsBackWrongFalsely : Prop := bitsBackRow.holds Try.pinned (OpenSpec.ofChange bitsBackWrong)

/- THE SECOND FORM. 'bulk': how many values and letters a reading holds, each counted each time it is reached (what is shared counts as often as it is met; a slice's spare places count too). A statement '..UptoSaid' is the law's where the arguments, and the package variables that the reading takes, are together of bulk at most 1048576: NARROWER than '..Said'. Prove '..Said' where nothing that the law and all that it calls make is longer than what came in: it says more and counts as full. Else prove '..UptoSaid'. A law counts once. -/
mutual
def uptoBulk {H : Type} : DataW H → Nat
  | .lit (.string bytes) => bytes.length + 1
  | .lit _ => 1
  | .nil => 1
  | .ptr d => uptoBulk d + 1
  | .slice elems spare => uptoBulkAll elems + uptoBulkAll spare + 1
  | .agg parts => uptoBulkAll parts + 1
  | .iface _ d => uptoBulk d + 1
  | .map entries => uptoBulkEntries entries + 1
  | .held _ => 1
def uptoBulkAll {H : Type} : List (DataW H) → Nat
  | [] => 0
  | d :: r => uptoBulk d + uptoBulkAll r
def uptoBulkEntries {H : Type} : List (Lit × DataW H) → Nat
  | [] => 0
  | x :: r => uptoBulkEntry x + uptoBulkEntries r
def uptoBulkEntry {H : Type} : Lit × DataW H → Nat
  | (.string bytes, d) => bytes.length + uptoBulk d + 1
  | (_, d) => uptoBulk d + 1
 end
def uptoSmall : (H : Type) → List (DataW H) → Bool := fun _ ds => decide (uptoBulkAll ds ≤ 1048576)
def OpenSpec.upto (s : _root_.Go.ChangeSpec) : _root_.Go.OpenSpec := { _root_.Go.OpenSpec.ofChange s with cond := some uptoSmall }

/-- 'choraguslaw01.BitsForms', WHERE WHAT IT READS IS OF BULK AT MOST 1048576: true; the input reads as it did. -/
def bitsFormsUptoRow : OpenClaim := { program := "ytmeampigomhdpaa", sum := "a6a9876ebe220398350eeb9e3223ebcf96d8d7a4bf7203d562b84ef18106be7b", func := "choragus/choraguslaw01.BitsForms", spec := "bitsForms", apart := false, narrowed := true }
def BitsFormsUptoSaid : Prop := bitsFormsUptoRow.holds Try.pinned (OpenSpec.upto bitsFormsSpec)

/-- 'choraguslaw01.BitsTurns', WHERE WHAT IT READS IS OF BULK AT MOST 1048576: true; the input reads as it did. -/
def bitsTurnsUptoRow : OpenClaim := { program := "ytmeampigomhdpaa", sum := "a6a9876ebe220398350eeb9e3223ebcf96d8d7a4bf7203d562b84ef18106be7b", func := "choragus/choraguslaw01.BitsTurns", spec := "bitsTurns", apart := false, narrowed := true }
def BitsTurnsUptoSaid : Prop := bitsTurnsUptoRow.holds Try.pinned (OpenSpec.upto bitsTurnsSpec)

/-- 'choraguslaw01.BitsSorts', WHERE WHAT IT READS IS OF BULK AT MOST 1048576: true; the input reads as it did. -/
def bitsSortsUptoRow : OpenClaim := { program := "ytmeampigomhdpaa", sum := "a6a9876ebe220398350eeb9e3223ebcf96d8d7a4bf7203d562b84ef18106be7b", func := "choragus/choraguslaw01.BitsSorts", spec := "bitsSorts", apart := false, narrowed := true }
def BitsSortsUptoSaid : Prop := bitsSortsUptoRow.holds Try.pinned (OpenSpec.upto bitsSortsSpec)

/-- 'choraguslaw01.BitsZigs', WHERE WHAT IT READS IS OF BULK AT MOST 1048576: true; the input reads as it did. -/
def bitsZigsUptoRow : OpenClaim := { program := "ytmeampigomhdpaa", sum := "a6a9876ebe220398350eeb9e3223ebcf96d8d7a4bf7203d562b84ef18106be7b", func := "choragus/choraguslaw01.BitsZigs", spec := "bitsZigs", apart := false, narrowed := true }
def BitsZigsUptoSaid : Prop := bitsZigsUptoRow.holds Try.pinned (OpenSpec.upto bitsZigsSpec)

/-- 'choraguslaw01.BitsTops', WHERE WHAT IT READS IS OF BULK AT MOST 1048576: true; the input reads as it did. -/
def bitsTopsUptoRow : OpenClaim := { program := "ytmeampigomhdpaa", sum := "a6a9876ebe220398350eeb9e3223ebcf96d8d7a4bf7203d562b84ef18106be7b", func := "choragus/choraguslaw01.BitsTops", spec := "bitsTops", apart := false, narrowed := true }
def BitsTopsUptoSaid : Prop := bitsTopsUptoRow.holds Try.pinned (OpenSpec.upto bitsTopsSpec)

/-- 'choraguslaw01.BitsReads', WHERE WHAT IT READS IS OF BULK AT MOST 1048576: true; the input reads as it did. -/
def bitsReadsUptoRow : OpenClaim := { program := "ytmeampigomhdpaa", sum := "a6a9876ebe220398350eeb9e3223ebcf96d8d7a4bf7203d562b84ef18106be7b", func := "choragus/choraguslaw01.BitsReads", spec := "bitsReads", apart := false, narrowed := true }
def BitsReadsUptoSaid : Prop := bitsReadsUptoRow.holds Try.pinned (OpenSpec.upto bitsReadsSpec)

/-- 'choraguslaw01.BitsShorts', WHERE WHAT IT READS IS OF BULK AT MOST 1048576: true; the input reads as it did. -/
def bitsShortsUptoRow : OpenClaim := { program := "ytmeampigomhdpaa", sum := "a6a9876ebe220398350eeb9e3223ebcf96d8d7a4bf7203d562b84ef18106be7b", func := "choragus/choraguslaw01.BitsShorts", spec := "bitsShorts", apart := false, narrowed := true }
def BitsShortsUptoSaid : Prop := bitsShortsUptoRow.holds Try.pinned (OpenSpec.upto bitsShortsSpec)

/-- 'choraguslaw01.BitsShortBack', WHERE WHAT IT READS IS OF BULK AT MOST 1048576: true; the input reads as it did. -/
def bitsShortBackUptoRow : OpenClaim := { program := "ytmeampigomhdpaa", sum := "a6a9876ebe220398350eeb9e3223ebcf96d8d7a4bf7203d562b84ef18106be7b", func := "choragus/choraguslaw01.BitsShortBack", spec := "bitsShortBack", apart := false, narrowed := true }
def BitsShortBackUptoSaid : Prop := bitsShortBackUptoRow.holds Try.pinned (OpenSpec.upto bitsShortBackSpec)

/-- 'choraguslaw01.BitsHexes', WHERE WHAT IT READS IS OF BULK AT MOST 1048576: true; the input reads as it did. -/
def bitsHexesUptoRow : OpenClaim := { program := "ytmeampigomhdpaa", sum := "a6a9876ebe220398350eeb9e3223ebcf96d8d7a4bf7203d562b84ef18106be7b", func := "choragus/choraguslaw01.BitsHexes", spec := "bitsHexes", inPlace := ["internal/bytealg.IndexByteString"], apart := false, narrowed := true }
def BitsHexesUptoSaid : Prop := bitsHexesUptoRow.holds Try.pinned (OpenSpec.upto bitsHexesSpec)

/-- 'choraguslaw01.BitsBack', WHERE WHAT IT READS IS OF BULK AT MOST 1048576: true; the input reads as it did. -/
def bitsBackUptoRow : OpenClaim := { program := "ytmeampigomhdpaa", sum := "a6a9876ebe220398350eeb9e3223ebcf96d8d7a4bf7203d562b84ef18106be7b", func := "choragus/choraguslaw01.BitsBack", spec := "bitsBack", apart := false, narrowed := true }
def BitsBackUptoSaid : Prop := bitsBackUptoRow.holds Try.pinned (OpenSpec.upto bitsBackSpec)

end Rows
end Go.Proofs.Ytmeampigomhdpaa
