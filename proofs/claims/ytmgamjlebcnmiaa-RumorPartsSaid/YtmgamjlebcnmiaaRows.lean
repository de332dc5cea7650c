/-
  No cell of these rows narrows 'for every input' (looked for: loops, veiled, ifaces, maps, wideKeys, modest, calm, conditions, laid).
  DERIVED. THE GIVEN ROWS OF THIS SEAT. 4 by the template 'for every input the law returns true; each argument reads behind the call as it read before'; 0 by the template 'total and deterministic' (their statements: YtmgamjlebcnmiaaTotals.lean).
  GIVEN WITH THE SEED: the statements are not yours to turn. If you find one false, say at which input.
  Laid BY PROGRAM, IN A SANDBOX (cutbox-rows.mjs): the forced cells as the released guide's own fill.sh prints them over the translation 5784a9aa8f95159c… (all of the seat's roots in one cut). By AI agents, Wed Nov 11 2026. No macro, syntax, notation, axiom, sorry.
-/
import Derived.Test.YtmgamjlebcnmiaaChecked
import GoSem.Claim
import GoSem.ClaimJoined
import GoSem.ClaimMapViews
import Derived.JoinedTies
import Derived.KernelRfl
namespace Go.Proofs.Ytmgamjlebcnmiaa
/- THE CELL 'sum', in the pinned program and in every row, IS THE sha256 OF THE DUMP (.gsa) THAT YtmgamjlebcnmiaaProg.lean LOADS. Nothing in Lean hashes anything: it is a label: what it is worth is what the hold of that sum in a sandbox is worth. -/
noncomputable def Try.pinned : Pinned := { name := "ytmgamjlebcnmiaa", sum := "5784a9aa8f95159c7c0c85658f855974763f4978870db1c50f504d2923ea5fd8", checked := Try.checked }
namespace Rows
def none {H : Type} : Left H := { results := [], args := [] }

/-- 'choraguslaw16.RumorWith': WHATEVER THE INPUT: true; the input reads as it did. -/
def rumorWithSpec : ChangeSpec := { name := "rumorWith", fn := fun _ => fun
  | [d1, d2, d3, d4] => { results := [.lit (.bool true)], args := [d1, d2, d3, d4] }
  | _ => none }
def rumorWithRow : OpenClaim := { program := "ytmgamjlebcnmiaa", sum := "5784a9aa8f95159c7c0c85658f855974763f4978870db1c50f504d2923ea5fd8", func := "choragus/choraguslaw16.RumorWith", spec := "rumorWith", apart := false }
def RumorWithSaid : Prop := rumorWithRow.holds Try.pinned (OpenSpec.ofChange rumorWithSpec)

/-- ITS FALSE NEIGHBOUR: 'it returns false'. Refute it at one input. -/
def rumorWithWrong : ChangeSpec := { name := "rumorWith", fn := fun _ => fun
  | [d1, d2, d3, d4] => { results := [.lit (.bool false)], args := [d1, d2, d3, d4] }
  | _ => none }
def RumorWithWrongFalsely : Prop := rumorWithRow.holds Try.pinned (OpenSpec.ofChange rumorWithWrong)

/-- 'choraguslaw16.RumorGrows': WHATEVER THE INPUT: true; the input reads as it did. -/
def rumorGrowsSpec : ChangeSpec := { name := "rumorGrows", fn := fun _ => fun
  | [d1, d2, d3, d4, d5] => { results := [.lit (.bool true)], args := [d1, d2, d3, d4, d5] }
  | _ => none }
def rumorGrowsRow : OpenClaim := { program := "ytmgamjlebcnmiaa", sum := "5784a9aa8f95159c7c0c85658f855974763f4978870db1c50f504d2923ea5fd8", func := "choragus/choraguslaw16.RumorGrows", spec := "rumorGrows", apart := false }
def RumorGrowsSaid : Prop := rumorGrowsRow.holds Try.pinned (OpenSpec.ofChange rumorGrowsSpec)

/-- ITS FALSE NEIGHBOUR: 'it returns false'. Refute it at one input. -/
def rumorGrowsWrong : ChangeSpec := { name := "rumorGrows", fn := fun _ => fun
  | [d1, d2, d3, d4, d5] => { results := [.lit (.bool false)], args := [d1, d2, d3, d4, d5] }
  | _ => none }
def RumorGrowsWrongFalsely : Prop := rumorGrowsRow.holds Try.pinned (OpenSpec.ofChange rumorGrowsWrong)

/-- 'choraguslaw16.RumorGrown': WHATEVER THE INPUT: true; the input reads as it did. -/
def rumorGrownSpec : ChangeSpec := { name := "rumorGrown", fn := fun _ => fun
  | [d1, d2] => { results := [.lit (.bool true)], args := [d1, d2] }
  | _ => none }
def rumorGrownRow : OpenClaim := { program := "ytmgamjlebcnmiaa", sum := "5784a9aa8f95159c7c0c85658f855974763f4978870db1c50f504d2923ea5fd8", func := "choragus/choraguslaw16.RumorGrown", spec := "rumorGrown", apart := false }
def RumorGrownSaid : Prop := rumorGrownRow.holds Try.pinned (OpenSpec.ofChange rumorGrownSpec)

/-- ITS FALSE NEIGHBOUR: 'it returns false'. Refute it at one input. -/
def rumorGrownWrong : ChangeSpec := { name := "rumorGrown", fn := fun _ => fun
  | [d1, d2] => { results := [.lit (.bool false)], args := [d1, d2] }
  | _ => none }
def RumorGrownWrongFalsely : Prop := rumorGrownRow.holds Try.pinned (OpenSpec.ofChange rumorGrownWrong)

/-- 'choraguslaw16.RumorParts': WHATEVER THE INPUT: true; the input reads as it did. -/
def rumorPartsSpec : ChangeSpec := { name := "rumorParts", fn := fun _ => fun
  | [d1, d2] => { results := [.lit (.bool true)], args := [d1, d2] }
  | _ => none }
def rumorPartsRow : OpenClaim := { program := "ytmgamjlebcnmiaa", sum := "5784a9aa8f95159c7c0c85658f855974763f4978870db1c50f504d2923ea5fd8", func := "choragus/choraguslaw16.RumorParts", spec := "rumorParts", apart := false }
def RumorPartsSaid : Prop := rumorPartsRow.holds Try.pinned (OpenSpec.ofChange rumorPartsSpec)

/-- ITS FALSE NEIGHBOUR: 'it returns false'. Refute it at one input. -/
def rumorPartsWrong : ChangeSpec := { name := "rumorParts", fn := fun _ => fun
  | [d1, d2] => { results := [.lit (.bool false)], args := [d1, d2] }
  | _ => none }
def RumorPartsWrongFalsely : Prop := rumorPartsRow.holds Try.pinned (OpenSpec.ofChange rumorPartsWrong)

/- THE SECOND FORM. 'bulk': how many values and letters a reading holds, each counted each time it is reached (what is shared counts as often as it is met; a slice's spare places count too). A statement '..UptoSaid' is the law's where the arguments, and the package variables that the reading takes, are together of bulk at most 1048576: NARROWER than '..Said'. Prove '..Said' where nothing that the law and all that it calls make is longer than what came in: it says more and counts as full. Else prove '..UptoSaid'. A law counts once. -/
mutual
def uptoBulk {H : Type} : DataW H → Nat
  | .lit (.string bytes) => bytes.length + 1
  | .lit _ => 1
  | .nil => 1
  | .ptr d => uptoBulk d + 1
  | .slice elems spare => uptoBulkAll elems + uptoBulkAll spare + 1
  | .agg parts => uptoBulkAll parts + 1
  | .iface _ d => uptoBulk d + 1
  | .map entries => uptoBulkEntries entries + 1
  | .held _ => 1
def uptoBulkAll {H : Type} : List (DataW H) → Nat
  | [] => 0
  | d :: r => uptoBulk d + uptoBulkAll r
def uptoBulkEntries {H : Type} : List (Lit × DataW H) → Nat
  | [] => 0
  | x :: r => uptoBulkEntry x + uptoBulkEntries r
def uptoBulkEntry {H : Type} : Lit × DataW H → Nat
  | (.string bytes, d) => bytes.length + uptoBulk d + 1
  | (_, d) => uptoBulk d + 1
 end
def uptoSmall : (H : Type) → List (DataW H) → Bool := fun _ ds => decide (uptoBulkAll ds ≤ 1048576)
def OpenSpec.upto (s : _root_.Go.ChangeSpec) : _root_.Go.OpenSpec := { _root_.Go.OpenSpec.ofChange s with cond := some uptoSmall }

/-- 'choraguslaw16.RumorWith', WHERE WHAT IT READS IS OF BULK AT MOST 1048576: true; the input reads as it did. -/
def rumorWithUptoRow : OpenClaim := { program := "ytmgamjlebcnmiaa", sum := "5784a9aa8f95159c7c0c85658f855974763f4978870db1c50f504d2923ea5fd8", func := "choragus/choraguslaw16.RumorWith", spec := "rumorWith", apart := false, narrowed := true }
def RumorWithUptoSaid : Prop := rumorWithUptoRow.holds Try.pinned (OpenSpec.upto rumorWithSpec)

/-- 'choraguslaw16.RumorGrows', WHERE WHAT IT READS IS OF BULK AT MOST 1048576: true; the input reads as it did. -/
def rumorGrowsUptoRow : OpenClaim := { program := "ytmgamjlebcnmiaa", sum := "5784a9aa8f95159c7c0c85658f855974763f4978870db1c50f504d2923ea5fd8", func := "choragus/choraguslaw16.RumorGrows", spec := "rumorGrows", apart := false, narrowed := true }
def RumorGrowsUptoSaid : Prop := rumorGrowsUptoRow.holds Try.pinned (OpenSpec.upto rumorGrowsSpec)

/-- 'choraguslaw16.RumorGrown', WHERE WHAT IT READS IS OF BULK AT MOST 1048576: true; the input reads as it did. -/
def rumorGrownUptoRow : OpenClaim := { program := "ytmgamjlebcnmiaa", sum := "5784a9aa8f95159c7c0c85658f855974763f4978870db1c50f504d2923ea5fd8", func := "choragus/choraguslaw16.RumorGrown", spec := "rumorGrown", apart := false, narrowed := true }
def RumorGrownUptoSaid : Prop := rumorGrownUptoRow.holds Try.pinned (OpenSpec.upto rumorGrownSpec)

/-- 'choraguslaw16.RumorParts', WHERE WHAT IT READS IS OF BULK AT MOST 1048576: true; the input reads as it did. -/
def rumorPartsUptoRow : OpenClaim := { program := "ytmgamjlebcnmiaa", sum := "5784a9aa8f95159c7c0c85658f855974763f4978870db1c50f504d2923ea5fd8", func := "choragus/choraguslaw16.RumorParts", spec := "rumorParts", apart := false, narrowed := true }
def RumorPartsUptoSaid : Prop := rumorPartsUptoRow.holds Try.pinned (OpenSpec.upto rumorPartsSpec)

end Rows
end Go.Proofs.Ytmgamjlebcnmiaa
