/-
  No cell of these rows narrows 'for every input' (looked for: loops, veiled, ifaces, maps, wideKeys, modest, calm, conditions, laid).
  DERIVED. THE GIVEN ROWS OF THIS SEAT. 7 by the template 'for every input the law returns true; each argument reads behind the call as it read before'; 0 by the template 'total and deterministic' (their statements: YtcjbippgjhgoiaaTotals.lean).
  GIVEN WITH THE SEED: the statements are not yours to turn. If you find one false, say at which input.
  Laid BY PROGRAM, IN A SANDBOX (cutbox-rows.mjs): the forced cells as the released guide's own fill.sh prints them over the translation 54a1b2193922ffd9… (all of the seat's roots in one cut). By AI agents, Wed Nov 11 2026. No macro, syntax, notation, axiom, sorry.
-/
import Derived.Test.YtcjbippgjhgoiaaChecked
import GoSem.Claim
import GoSem.ClaimJoined
import GoSem.ClaimMapViews
import Derived.JoinedTies
import Derived.KernelRfl
namespace Go.Proofs.Ytcjbippgjhgoiaa
/- THE CELL 'sum', in the pinned program and in every row, IS THE sha256 OF THE DUMP (.gsa) THAT YtcjbippgjhgoiaaProg.lean LOADS. Nothing in Lean hashes anything: it is a label: what it is worth is what the hold of that sum in a sandbox is worth. -/
noncomputable def Try.pinned : Pinned := { name := "ytcjbippgjhgoiaa", sum := "54a1b2193922ffd9938bd8b1f45391ae9a76491b1d4ff70a8ef55617e173c072", checked := Try.checked }
namespace Rows
def none {H : Type} : Left H := { results := [], args := [] }

/-- 'choraguslaw07.BodyLays': WHATEVER THE INPUT: true; the input reads as it did. -/
def bodyLaysSpec : ChangeSpec := { name := "bodyLays", fn := fun _ => fun
  | [d] => { results := [.lit (.bool true)], args := [d] }
  | _ => none }
def bodyLaysRow : OpenClaim := { program := "ytcjbippgjhgoiaa", sum := "54a1b2193922ffd9938bd8b1f45391ae9a76491b1d4ff70a8ef55617e173c072", func := "choragus/choraguslaw07.BodyLays", spec := "bodyLays", apart := false }
def BodyLaysSaid : Prop := bodyLaysRow.holds Try.pinned (OpenSpec.ofChange bodyLaysSpec)

/-- ITS FALSE NEIGHBOUR: 'it returns false'. Refute it at one input. -/
def bodyLaysWrong : ChangeSpec := { name := "bodyLays", fn := fun _ => fun
  | [d] => { results := [.lit (.bool false)], args := [d] }
  | _ => none }
def BodyLaysWrongFalsely : Prop := bodyLaysRow.holds Try.pinned (OpenSpec.ofChange bodyLaysWrong)

/-- 'choraguslaw06.FrameEncodes': WHATEVER THE INPUT: true; the input reads as it did. -/
def frameEncodesSpec : ChangeSpec := { name := "frameEncodes", fn := fun _ => fun
  | [d] => { results := [.lit (.bool true)], args := [d] }
  | _ => none }
def frameEncodesRow : OpenClaim := { program := "ytcjbippgjhgoiaa", sum := "54a1b2193922ffd9938bd8b1f45391ae9a76491b1d4ff70a8ef55617e173c072", func := "choragus/choraguslaw06.FrameEncodes", spec := "frameEncodes", apart := false }
def FrameEncodesSaid : Prop := frameEncodesRow.holds Try.pinned (OpenSpec.ofChange frameEncodesSpec)

/-- ITS FALSE NEIGHBOUR: 'it returns false'. Refute it at one input. -/
def frameEncodesWrong : ChangeSpec := { name := "frameEncodes", fn := fun _ => fun
  | [d] => { results := [.lit (.bool false)], args := [d] }
  | _ => none }
def FrameEncodesWrongFalsely : Prop := frameEncodesRow.holds Try.pinned (OpenSpec.ofChange frameEncodesWrong)

/-- 'choraguslaw06.FrameDecodes': WHATEVER THE INPUT: true; the input reads as it did. -/
def frameDecodesSpec : ChangeSpec := { name := "frameDecodes", fn := fun _ => fun
  | [d] => { results := [.lit (.bool true)], args := [d] }
  | _ => none }
def frameDecodesRow : OpenClaim := { program := "ytcjbippgjhgoiaa", sum := "54a1b2193922ffd9938bd8b1f45391ae9a76491b1d4ff70a8ef55617e173c072", func := "choragus/choraguslaw06.FrameDecodes", spec := "frameDecodes", apart := false }
def FrameDecodesSaid : Prop := frameDecodesRow.holds Try.pinned (OpenSpec.ofChange frameDecodesSpec)

/-- ITS FALSE NEIGHBOUR: 'it returns false'. Refute it at one input. -/
def frameDecodesWrong : ChangeSpec := { name := "frameDecodes", fn := fun _ => fun
  | [d] => { results := [.lit (.bool false)], args := [d] }
  | _ => none }
def FrameDecodesWrongFalsely : Prop := frameDecodesRow.holds Try.pinned (OpenSpec.ofChange frameDecodesWrong)

/-- 'choraguslaw06.FrameTurned': WHATEVER THE INPUT: true; the input reads as it did. -/
def frameTurnedSpec : ChangeSpec := { name := "frameTurned", fn := fun _ => fun
  | [d1, d2, d3, d4] => { results := [.lit (.bool true)], args := [d1, d2, d3, d4] }
  | _ => none }
def frameTurnedRow : OpenClaim := { program := "ytcjbippgjhgoiaa", sum := "54a1b2193922ffd9938bd8b1f45391ae9a76491b1d4ff70a8ef55617e173c072", func := "choragus/choraguslaw06.FrameTurned", spec := "frameTurned", apart := false }
def FrameTurnedSaid : Prop := frameTurnedRow.holds Try.pinned (OpenSpec.ofChange frameTurnedSpec)

/-- ITS FALSE NEIGHBOUR: 'it returns false'. Refute it at one input. -/
def frameTurnedWrong : ChangeSpec := { name := "frameTurned", fn := fun _ => fun
  | [d1, d2, d3, d4] => { results := [.lit (.bool false)], args := [d1, d2, d3, d4] }
  | _ => none }
def FrameTurnedWrongFalsely : Prop := frameTurnedRow.holds Try.pinned (OpenSpec.ofChange frameTurnedWrong)

/-- 'choraguslaw06.FrameAlien': WHATEVER THE INPUT: true; the input reads as it did. -/
def frameAlienSpec : ChangeSpec := { name := "frameAlien", fn := fun _ => fun
  | [d] => { results := [.lit (.bool true)], args := [d] }
  | _ => none }
def frameAlienRow : OpenClaim := { program := "ytcjbippgjhgoiaa", sum := "54a1b2193922ffd9938bd8b1f45391ae9a76491b1d4ff70a8ef55617e173c072", func := "choragus/choraguslaw06.FrameAlien", spec := "frameAlien", apart := false }
def FrameAlienSaid : Prop := frameAlienRow.holds Try.pinned (OpenSpec.ofChange frameAlienSpec)

/-- ITS FALSE NEIGHBOUR: 'it returns false'. Refute it at one input. -/
def frameAlienWrong : ChangeSpec := { name := "frameAlien", fn := fun _ => fun
  | [d] => { results := [.lit (.bool false)], args := [d] }
  | _ => none }
def FrameAlienWrongFalsely : Prop := frameAlienRow.holds Try.pinned (OpenSpec.ofChange frameAlienWrong)

/-- 'choraguslaw06.FrameBack': WHATEVER THE INPUT: true; the input reads as it did. -/
def frameBackSpec : ChangeSpec := { name := "frameBack", fn := fun _ => fun
  | [d1, d2] => { results := [.lit (.bool true)], args := [d1, d2] }
  | _ => none }
def frameBackRow : OpenClaim := { program := "ytcjbippgjhgoiaa", sum := "54a1b2193922ffd9938bd8b1f45391ae9a76491b1d4ff70a8ef55617e173c072", func := "choragus/choraguslaw06.FrameBack", spec := "frameBack", apart := false }
def FrameBackSaid : Prop := frameBackRow.holds Try.pinned (OpenSpec.ofChange frameBackSpec)

/-- ITS FALSE NEIGHBOUR: 'it returns false'. Refute it at one input. -/
def frameBackWrong : ChangeSpec := { name := "frameBack", fn := fun _ => fun
  | [d1, d2] => { results := [.lit (.bool false)], args := [d1, d2] }
  | _ => none }
def FrameBackWrongFalsely : Prop := frameBackRow.holds Try.pinned (OpenSpec.ofChange frameBackWrong)

/-- 'choraguslaw07.BodyBack': WHATEVER THE INPUT: true; the input reads as it did. -/
def bodyBackSpec : ChangeSpec := { name := "bodyBack", fn := fun _ => fun
  | [d] => { results := [.lit (.bool true)], args := [d] }
  | _ => none }
def bodyBackRow : OpenClaim := { program := "ytcjbippgjhgoiaa", sum := "54a1b2193922ffd9938bd8b1f45391ae9a76491b1d4ff70a8ef55617e173c072", func := "choragus/choraguslaw07.BodyBack", spec := "bodyBack", unfollowed := true, recurses := true, apart := false }
def BodyBackSaid : Prop := bodyBackRow.holds Try.pinned (OpenSpec.ofChange bodyBackSpec)

/-- ITS FALSE NEIGHBOUR: 'it returns false'. Refute it at one input. -/
def bodyBackWrong : ChangeSpec := { name := "bodyBack", fn := fun _ => fun
  | [d] => { results := [.lit (.bool false)], args := [d] }
  | _ => none }
def BodyBackWrongFalsely : Prop := bodyBackRow.holds Try.pinned (OpenSpec.ofChange bodyBackWrong)

/- THE SECOND FORM. 'bulk': how many values and letters a reading holds, each counted each time it is reached (what is shared counts as often as it is met; a slice's spare places count too). A statement '..UptoSaid' is the law's where the arguments, and the package variables that the reading takes, are together of bulk at most 1048576: NARROWER than '..Said'. Prove '..Said' where nothing that the law and all that it calls make is longer than what came in: it says more and counts as full. Else prove '..UptoSaid'. A law counts once. -/
mutual
def uptoBulk {H : Type} : DataW H → Nat
  | .lit (.string bytes) => bytes.length + 1
  | .lit _ => 1
  | .nil => 1
  | .ptr d => uptoBulk d + 1
  | .slice elems spare => uptoBulkAll elems + uptoBulkAll spare + 1
  | .agg parts => uptoBulkAll parts + 1
  | .iface _ d => uptoBulk d + 1
  | .map entries => uptoBulkEntries entries + 1
  | .held _ => 1
def uptoBulkAll {H : Type} : List (DataW H) → Nat
  | [] => 0
  | d :: r => uptoBulk d + uptoBulkAll r
def uptoBulkEntries {H : Type} : List (Lit × DataW H) → Nat
  | [] => 0
  | x :: r => uptoBulkEntry x + uptoBulkEntries r
def uptoBulkEntry {H : Type} : Lit × DataW H → Nat
  | (.string bytes, d) => bytes.length + uptoBulk d + 1
  | (_, d) => uptoBulk d + 1
 end
def uptoSmall : (H : Type) → List (DataW H) → Bool := fun _ ds => decide (uptoBulkAll ds ≤ 1048576)
def OpenSpec.upto (s : _root_.Go.ChangeSpec) : _root_.Go.OpenSpec := { _root_.Go.OpenSpec.ofChange s with cond := some uptoSmall }

/-- 'choraguslaw07.BodyLays', WHERE WHAT IT READS IS OF BULK AT MOST 1048576: true; the input reads as it did. -/
def bodyLaysUptoRow : OpenClaim := { program := "ytcjbippgjhgoiaa", sum := "54a1b2193922ffd9938bd8b1f45391ae9a76491b1d4ff70a8ef55617e173c072", func := "choragus/choraguslaw07.BodyLays", spec := "bodyLays", apart := false, narrowed := true }
def BodyLaysUptoSaid : Prop := bodyLaysUptoRow.holds Try.pinned (OpenSpec.upto bodyLaysSpec)

/-- 'choraguslaw06.FrameEncodes', WHERE WHAT IT READS IS OF BULK AT MOST 1048576: true; the input reads as it did. -/
def frameEncodesUptoRow : OpenClaim := { program := "ytcjbippgjhgoiaa", sum := "54a1b2193922ffd9938bd8b1f45391ae9a76491b1d4ff70a8ef55617e173c072", func := "choragus/choraguslaw06.FrameEncodes", spec := "frameEncodes", apart := false, narrowed := true }
def FrameEncodesUptoSaid : Prop := frameEncodesUptoRow.holds Try.pinned (OpenSpec.upto frameEncodesSpec)

/-- 'choraguslaw06.FrameDecodes', WHERE WHAT IT READS IS OF BULK AT MOST 1048576: true; the input reads as it did. -/
def frameDecodesUptoRow : OpenClaim := { program := "ytcjbippgjhgoiaa", sum := "54a1b2193922ffd9938bd8b1f45391ae9a76491b1d4ff70a8ef55617e173c072", func := "choragus/choraguslaw06.FrameDecodes", spec := "frameDecodes", apart := false, narrowed := true }
def FrameDecodesUptoSaid : Prop := frameDecodesUptoRow.holds Try.pinned (OpenSpec.upto frameDecodesSpec)

/-- 'choraguslaw06.FrameTurned', WHERE WHAT IT READS IS OF BULK AT MOST 1048576: true; the input reads as it did. -/
def frameTurnedUptoRow : OpenClaim := { program := "ytcjbippgjhgoiaa", sum := "54a1b2193922ffd9938bd8b1f45391ae9a76491b1d4ff70a8ef55617e173c072", func := "choragus/choraguslaw06.FrameTurned", spec := "frameTurned", apart := false, narrowed := true }
def FrameTurnedUptoSaid : Prop := frameTurnedUptoRow.holds Try.pinned (OpenSpec.upto frameTurnedSpec)

/-- 'choraguslaw06.FrameAlien', WHERE WHAT IT READS IS OF BULK AT MOST 1048576: true; the input reads as it did. -/
def frameAlienUptoRow : OpenClaim := { program := "ytcjbippgjhgoiaa", sum := "54a1b2193922ffd9938bd8b1f45391ae9a76491b1d4ff70a8ef55617e173c072", func := "choragus/choraguslaw06.FrameAlien", spec := "frameAlien", apart := false, narrowed := true }
def FrameAlienUptoSaid : Prop := frameAlienUptoRow.holds Try.pinned (OpenSpec.upto frameAlienSpec)

/-- 'choraguslaw06.FrameBack', WHERE WHAT IT READS IS OF BULK AT MOST 1048576: true; the input reads as it did. -/
def frameBackUptoRow : OpenClaim := { program := "ytcjbippgjhgoiaa", sum := "54a1b2193922ffd9938bd8b1f45391ae9a76491b1d4ff70a8ef55617e173c072", func := "choragus/choraguslaw06.FrameBack", spec := "frameBack", apart := false, narrowed := true }
def FrameBackUptoSaid : Prop := frameBackUptoRow.holds Try.pinned (OpenSpec.upto frameBackSpec)

/-- 'choraguslaw07.BodyBack', WHERE WHAT IT READS IS OF BULK AT MOST 1048576: true; the input reads as it did. -/
def bodyBackUptoRow : OpenClaim := { program := "ytcjbippgjhgoiaa", sum := "54a1b2193922ffd9938bd8b1f45391ae9a76491b1d4ff70a8ef55617e173c072", func := "choragus/choraguslaw07.BodyBack", spec := "bodyBack", unfollowed := true, recurses := true, apart := false, narrowed := true }
def BodyBackUptoSaid : Prop := bodyBackUptoRow.holds Try.pinned (OpenSpec.upto bodyBackSpec)

end Rows
end Go.Proofs.Ytcjbippgjhgoiaa
