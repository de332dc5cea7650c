/-
  No cell of these rows narrows 'for every input' (looked for: loops, veiled, ifaces, maps, wideKeys, modest, calm, conditions, laid).
  DERIVED. THE GIVEN ROWS OF THIS SEAT. 6 by the template 'for every input the law returns true; each argument reads behind the call as it read before'; 0 by the template 'total and deterministic' (their statements: YtbepaafgcbgmfaaTotals.lean).
  GIVEN WITH THE SEED: the statements are not yours to turn. If you find one false, say at which input.
  Laid BY PROGRAM, IN A SANDBOX (cutbox-rows.mjs): the forced cells as the released guide's own fill.sh prints them over the translation 6f9483a44ab93ca0… (all of the seat's roots in one cut). By AI agents, Wed Nov 11 2026. No macro, syntax, notation, axiom, sorry.
-/
import Derived.Test.YtbepaafgcbgmfaaChecked
import GoSem.Claim
import GoSem.ClaimJoined
import GoSem.ClaimMapViews
import Derived.JoinedTies
import Derived.KernelRfl
namespace Go.Proofs.Ytbepaafgcbgmfaa
/- THE CELL 'sum', in the pinned program and in every row, IS THE sha256 OF THE DUMP (.gsa) THAT YtbepaafgcbgmfaaProg.lean LOADS. Nothing in Lean hashes anything: it is a label: what it is worth is what the hold of that sum in a sandbox is worth. -/
noncomputable def Try.pinned : Pinned := { name := "ytbepaafgcbgmfaa", sum := "6f9483a44ab93ca0bb771991acabcf2d50b971d69a7f3b9a7640542c7748785f", checked := Try.checked }
namespace Rows
def none {H : Type} : Left H := { results := [], args := [] }

/-- 'choraguslaw29.FlatStays': WHATEVER THE INPUT: true; the input reads as it did. -/
def flatStaysSpec : ChangeSpec := { name := "flatStays", fn := fun _ => fun
  | [d1, d2] => { results := [.lit (.bool true)], args := [d1, d2] }
  | _ => none }
def flatStaysRow : OpenClaim := { program := "ytbepaafgcbgmfaa", sum := "6f9483a44ab93ca0bb771991acabcf2d50b971d69a7f3b9a7640542c7748785f", func := "choragus/choraguslaw29.FlatStays", spec := "flatStays", unfollowed := true, recurses := true, plainKeys := false, apart := false }
def FlatStaysSaid : Prop := flatStaysRow.holds Try.pinned (OpenSpec.ofChange flatStaysSpec)

/-- ITS FALSE NEIGHBOUR: 'it returns false'. Refute it at one input. -/
def flatStaysWrong : ChangeSpec := { name := "flatStays", fn := fun _ => fun
  | [d1, d2] => { results := [.lit (.bool false)], args := [d1, d2] }
  | _ => none }
def FlatStaysWrongFalsely : Prop := flatStaysRow.holds Try.pinned (OpenSpec.ofChange flatStaysWrong)

/-- 'choraguslaw29.FlatCut': WHATEVER THE INPUT: true; the input reads as it did. -/
def flatCutSpec : ChangeSpec := { name := "flatCut", fn := fun _ => fun
  | [d1, d2, d3, d4] => { results := [.lit (.bool true)], args := [d1, d2, d3, d4] }
  | _ => none }
def flatCutRow : OpenClaim := { program := "ytbepaafgcbgmfaa", sum := "6f9483a44ab93ca0bb771991acabcf2d50b971d69a7f3b9a7640542c7748785f", func := "choragus/choraguslaw29.FlatCut", spec := "flatCut", unfollowed := true, recurses := true, plainKeys := false, apart := false }
def FlatCutSaid : Prop := flatCutRow.holds Try.pinned (OpenSpec.ofChange flatCutSpec)

/-- ITS FALSE NEIGHBOUR: 'it returns false'. Refute it at one input. -/
def flatCutWrong : ChangeSpec := { name := "flatCut", fn := fun _ => fun
  | [d1, d2, d3, d4] => { results := [.lit (.bool false)], args := [d1, d2, d3, d4] }
  | _ => none }
def FlatCutWrongFalsely : Prop := flatCutRow.holds Try.pinned (OpenSpec.ofChange flatCutWrong)

/-- 'choraguslaw29.FlatTurned': WHATEVER THE INPUT: true; the input reads as it did. -/
def flatTurnedSpec : ChangeSpec := { name := "flatTurned", fn := fun _ => fun
  | [d1, d2, d3] => { results := [.lit (.bool true)], args := [d1, d2, d3] }
  | _ => none }
def flatTurnedRow : OpenClaim := { program := "ytbepaafgcbgmfaa", sum := "6f9483a44ab93ca0bb771991acabcf2d50b971d69a7f3b9a7640542c7748785f", func := "choragus/choraguslaw29.FlatTurned", spec := "flatTurned", unfollowed := true, recurses := true, plainKeys := false, apart := false }
def FlatTurnedSaid : Prop := flatTurnedRow.holds Try.pinned (OpenSpec.ofChange flatTurnedSpec)

/-- ITS FALSE NEIGHBOUR: 'it returns false'. Refute it at one input. -/
def flatTurnedWrong : ChangeSpec := { name := "flatTurned", fn := fun _ => fun
  | [d1, d2, d3] => { results := [.lit (.bool false)], args := [d1, d2, d3] }
  | _ => none }
def FlatTurnedWrongFalsely : Prop := flatTurnedRow.holds Try.pinned (OpenSpec.ofChange flatTurnedWrong)

/-- 'choraguslaw29.FlatOrder': WHATEVER THE INPUT: true; the input reads as it did. -/
def flatOrderSpec : ChangeSpec := { name := "flatOrder", fn := fun _ => fun
  | [d1, d2, d3] => { results := [.lit (.bool true)], args := [d1, d2, d3] }
  | _ => none }
def flatOrderRow : OpenClaim := { program := "ytbepaafgcbgmfaa", sum := "6f9483a44ab93ca0bb771991acabcf2d50b971d69a7f3b9a7640542c7748785f", func := "choragus/choraguslaw29.FlatOrder", spec := "flatOrder", unfollowed := true, recurses := true, plainKeys := false, apart := false }
def FlatOrderSaid : Prop := flatOrderRow.holds Try.pinned (OpenSpec.ofChange flatOrderSpec)

/-- ITS FALSE NEIGHBOUR: 'it returns false'. Refute it at one input. -/
def flatOrderWrong : ChangeSpec := { name := "flatOrder", fn := fun _ => fun
  | [d1, d2, d3] => { results := [.lit (.bool false)], args := [d1, d2, d3] }
  | _ => none }
def FlatOrderWrongFalsely : Prop := flatOrderRow.holds Try.pinned (OpenSpec.ofChange flatOrderWrong)

/-- 'choraguslaw29.FlatSums': WHATEVER THE INPUT: true; the input reads as it did. -/
def flatSumsSpec : ChangeSpec := { name := "flatSums", fn := fun _ => fun
  | [d1, d2, d3] => { results := [.lit (.bool true)], args := [d1, d2, d3] }
  | _ => none }
def flatSumsRow : OpenClaim := { program := "ytbepaafgcbgmfaa", sum := "6f9483a44ab93ca0bb771991acabcf2d50b971d69a7f3b9a7640542c7748785f", func := "choragus/choraguslaw29.FlatSums", spec := "flatSums", unfollowed := true, recurses := true, plainKeys := false, apart := false }
def FlatSumsSaid : Prop := flatSumsRow.holds Try.pinned (OpenSpec.ofChange flatSumsSpec)

/-- ITS FALSE NEIGHBOUR: 'it returns false'. Refute it at one input. -/
def flatSumsWrong : ChangeSpec := { name := "flatSums", fn := fun _ => fun
  | [d1, d2, d3] => { results := [.lit (.bool false)], args := [d1, d2, d3] }
  | _ => none }
def FlatSumsWrongFalsely : Prop := flatSumsRow.holds Try.pinned (OpenSpec.ofChange flatSumsWrong)

/-- 'choraguslaw29.FlatLate': WHATEVER THE INPUT: true; the input reads as it did. -/
def flatLateSpec : ChangeSpec := { name := "flatLate", fn := fun _ => fun
  | [d1, d2, d3] => { results := [.lit (.bool true)], args := [d1, d2, d3] }
  | _ => none }
def flatLateRow : OpenClaim := { program := "ytbepaafgcbgmfaa", sum := "6f9483a44ab93ca0bb771991acabcf2d50b971d69a7f3b9a7640542c7748785f", func := "choragus/choraguslaw29.FlatLate", spec := "flatLate", unfollowed := true, recurses := true, plainKeys := false, apart := false }
def FlatLateSaid : Prop := flatLateRow.holds Try.pinned (OpenSpec.ofChange flatLateSpec)

/-- ITS FALSE NEIGHBOUR: 'it returns false'. Refute it at one input. -/
def flatLateWrong : ChangeSpec := { name := "flatLate", fn := fun _ => fun
  | [d1, d2, d3] => { results := [.lit (.bool false)], args := [d1, d2, d3] }
  | _ => none }
def FlatLateWrongFalsely : Prop := flatLateRow.holds Try.pinned (OpenSpec.ofChange flatLateWrong)

/- THE SECOND FORM. 'bulk': how many values and letters a reading holds, each counted each time it is reached (what is shared counts as often as it is met; a slice's spare places count too). A statement '..UptoSaid' is the law's where the arguments, and the package variables that the reading takes, are together of bulk at most 1048576: NARROWER than '..Said'. Prove '..Said' where nothing that the law and all that it calls make is longer than what came in: it says more and counts as full. Else prove '..UptoSaid'. A law counts once. -/
mutual
def uptoBulk {H : Type} : DataW H → Nat
  | .lit (.string bytes) => bytes.length + 1
  | .lit _ => 1
  | .nil => 1
  | .ptr d => uptoBulk d + 1
  | .slice elems spare => uptoBulkAll elems + uptoBulkAll spare + 1
  | .agg parts => uptoBulkAll parts + 1
  | .iface _ d => uptoBulk d + 1
  | .map entries => uptoBulkEntries entries + 1
  | .held _ => 1
def uptoBulkAll {H : Type} : List (DataW H) → Nat
  | [] => 0
  | d :: r => uptoBulk d + uptoBulkAll r
def uptoBulkEntries {H : Type} : List (Lit × DataW H) → Nat
  | [] => 0
  | x :: r => uptoBulkEntry x + uptoBulkEntries r
def uptoBulkEntry {H : Type} : Lit × DataW H → Nat
  | (.string bytes, d) => bytes.length + uptoBulk d + 1
  | (_, d) => uptoBulk d + 1
 end
def uptoSmall : (H : Type) → List (DataW H) → Bool := fun _ ds => decide (uptoBulkAll ds ≤ 1048576)
def OpenSpec.upto (s : _root_.Go.ChangeSpec) : _root_.Go.OpenSpec := { _root_.Go.OpenSpec.ofChange s with cond := some uptoSmall }

/-- 'choraguslaw29.FlatStays', WHERE WHAT IT READS IS OF BULK AT MOST 1048576: true; the input reads as it did. -/
def flatStaysUptoRow : OpenClaim := { program := "ytbepaafgcbgmfaa", sum := "6f9483a44ab93ca0bb771991acabcf2d50b971d69a7f3b9a7640542c7748785f", func := "choragus/choraguslaw29.FlatStays", spec := "flatStays", unfollowed := true, recurses := true, plainKeys := false, apart := false, narrowed := true }
def FlatStaysUptoSaid : Prop := flatStaysUptoRow.holds Try.pinned (OpenSpec.upto flatStaysSpec)

/-- 'choraguslaw29.FlatCut', WHERE WHAT IT READS IS OF BULK AT MOST 1048576: true; the input reads as it did. -/
def flatCutUptoRow : OpenClaim := { program := "ytbepaafgcbgmfaa", sum := "6f9483a44ab93ca0bb771991acabcf2d50b971d69a7f3b9a7640542c7748785f", func := "choragus/choraguslaw29.FlatCut", spec := "flatCut", unfollowed := true, recurses := true, plainKeys := false, apart := false, narrowed := true }
def FlatCutUptoSaid : Prop := flatCutUptoRow.holds Try.pinned (OpenSpec.upto flatCutSpec)

/-- 'choraguslaw29.FlatTurned', WHERE WHAT IT READS IS OF BULK AT MOST 1048576: true; the input reads as it did. -/
def flatTurnedUptoRow : OpenClaim := { program := "ytbepaafgcbgmfaa", sum := "6f9483a44ab93ca0bb771991acabcf2d50b971d69a7f3b9a7640542c7748785f", func := "choragus/choraguslaw29.FlatTurned", spec := "flatTurned", unfollowed := true, recurses := true, plainKeys := false, apart := false, narrowed := true }
def FlatTurnedUptoSaid : Prop := flatTurnedUptoRow.holds Try.pinned (OpenSpec.upto flatTurnedSpec)

/-- 'choraguslaw29.FlatOrder', WHERE WHAT IT READS IS OF BULK AT MOST 1048576: true; the input reads as it did. -/
def flatOrderUptoRow : OpenClaim := { program := "ytbepaafgcbgmfaa", sum := "6f9483a44ab93ca0bb771991acabcf2d50b971d69a7f3b9a7640542c7748785f", func := "choragus/choraguslaw29.FlatOrder", spec := "flatOrder", unfollowed := true, recurses := true, plainKeys := false, apart := false, narrowed := true }
def FlatOrderUptoSaid : Prop := flatOrderUptoRow.holds Try.pinned (OpenSpec.upto flatOrderSpec)

/-- 'choraguslaw29.FlatSums', WHERE WHAT IT READS IS OF BULK AT MOST 1048576: true; the input reads as it did. -/
def flatSumsUptoRow : OpenClaim := { program := "ytbepaafgcbgmfaa", sum := "6f9483a44ab93ca0bb771991acabcf2d50b971d69a7f3b9a7640542c7748785f", func := "choragus/choraguslaw29.FlatSums", spec := "flatSums", unfollowed := true, recurses := true, plainKeys := false, apart := false, narrowed := true }
def FlatSumsUptoSaid : Prop := flatSumsUptoRow.holds Try.pinned (OpenSpec.upto flatSumsSpec)

/-- 'choraguslaw29.FlatLate', WHERE WHAT IT READS IS OF BULK AT MOST 1048576: true; the input reads as it did. -/
def flatLateUptoRow : OpenClaim := { program := "ytbepaafgcbgmfaa", sum := "6f9483a44ab93ca0bb771991acabcf2d50b971d69a7f3b9a7640542c7748785f", func := "choragus/choraguslaw29.FlatLate", spec := "flatLate", unfollowed := true, recurses := true, plainKeys := false, apart := false, narrowed := true }
def FlatLateUptoSaid : Prop := flatLateUptoRow.holds Try.pinned (OpenSpec.upto flatLateSpec)

end Rows
end Go.Proofs.Ytbepaafgcbgmfaa
