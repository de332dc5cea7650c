/-
  No cell of these rows narrows 'for every input' (looked for: loops, veiled, ifaces, maps, wideKeys, modest, calm, conditions, laid).
  DERIVED. THE GIVEN ROWS OF THIS SEAT. 9 by the template 'for every input the law returns true; each argument reads behind the call as it read before'; 0 by the template 'total and deterministic' (their statements: YtjghcmejmdllbaaTotals.lean).
  GIVEN WITH THE SEED: the statements are not yours to turn. If you find one false, say at which input.
  Laid BY PROGRAM, IN A SANDBOX (cutbox-rows.mjs): the forced cells as the released guide's own fill.sh prints them over the translation d7de2e6b649dcd11… (all of the seat's roots in one cut). By AI agents, Wed Nov 11 2026. No macro, syntax, notation, axiom, sorry.
-/
import Derived.Test.YtjghcmejmdllbaaChecked
import GoSem.Claim
import GoSem.ClaimJoined
import GoSem.ClaimMapViews
import Derived.JoinedTies
import Derived.KernelRfl
namespace Go.Proofs.Ytjghcmejmdllbaa
/- THE CELL 'sum', in the pinned program and in every row, IS THE sha256 OF THE DUMP (.gsa) THAT YtjghcmejmdllbaaProg.lean LOADS. Nothing in Lean hashes anything: it is a label: what it is worth is what the hold of that sum in a sandbox is worth. -/
noncomputable def Try.pinned : Pinned := { name := "ytjghcmejmdllbaa", sum := "d7de2e6b649dcd1158f5feda41235631a7357041a957de0f7d6c481f9b680ca2", checked := Try.checked }
namespace Rows
def none {H : Type} : Left H := { results := [], args := [] }

/-- 'choraguslaw19.StateOnce': WHATEVER THE INPUT: true; the input reads as it did. -/
def stateOnceSpec : ChangeSpec := { name := "stateOnce", fn := fun _ => fun
  | [d1, d2] => { results := [.lit (.bool true)], args := [d1, d2] }
  | _ => none }
def stateOnceRow : OpenClaim := { program := "ytjghcmejmdllbaa", sum := "d7de2e6b649dcd1158f5feda41235631a7357041a957de0f7d6c481f9b680ca2", func := "choragus/choraguslaw19.StateOnce", spec := "stateOnce", unfollowed := true, recurses := true, plainKeys := false, apart := false }
def StateOnceSaid : Prop := stateOnceRow.holds Try.pinned (OpenSpec.ofChange stateOnceSpec)

/-- ITS FALSE NEIGHBOUR: 'it returns false'. Refute it at one input. -/
def stateOnceWrong : ChangeSpec := { name := "stateOnce", fn := fun _ => fun
  | [d1, d2] => { results := [.lit (.bool false)], args := [d1, d2] }
  | _ => none }
def StateOnceWrongFalsely : Prop := stateOnceRow.holds Try.pinned (OpenSpec.ofChange stateOnceWrong)

/-- 'choraguslaw19.StatePlays': WHATEVER THE INPUT: true; the input reads as it did. -/
def statePlaysSpec : ChangeSpec := { name := "statePlays", fn := fun _ => fun
  | [d1, d2, d3] => { results := [.lit (.bool true)], args := [d1, d2, d3] }
  | _ => none }
def statePlaysRow : OpenClaim := { program := "ytjghcmejmdllbaa", sum := "d7de2e6b649dcd1158f5feda41235631a7357041a957de0f7d6c481f9b680ca2", func := "choragus/choraguslaw19.StatePlays", spec := "statePlays", unfollowed := true, recurses := true, plainKeys := false, apart := false }
def StatePlaysSaid : Prop := statePlaysRow.holds Try.pinned (OpenSpec.ofChange statePlaysSpec)

/-- ITS FALSE NEIGHBOUR: 'it returns false'. Refute it at one input. -/
def statePlaysWrong : ChangeSpec := { name := "statePlays", fn := fun _ => fun
  | [d1, d2, d3] => { results := [.lit (.bool false)], args := [d1, d2, d3] }
  | _ => none }
def StatePlaysWrongFalsely : Prop := statePlaysRow.holds Try.pinned (OpenSpec.ofChange statePlaysWrong)

/-- 'choraguslaw19.StateTwins': WHATEVER THE INPUT: true; the input reads as it did. -/
def stateTwinsSpec : ChangeSpec := { name := "stateTwins", fn := fun _ => fun
  | [d1, d2] => { results := [.lit (.bool true)], args := [d1, d2] }
  | _ => none }
def stateTwinsRow : OpenClaim := { program := "ytjghcmejmdllbaa", sum := "d7de2e6b649dcd1158f5feda41235631a7357041a957de0f7d6c481f9b680ca2", func := "choragus/choraguslaw19.StateTwins", spec := "stateTwins", unfollowed := true, recurses := true, plainKeys := false, apart := false }
def StateTwinsSaid : Prop := stateTwinsRow.holds Try.pinned (OpenSpec.ofChange stateTwinsSpec)

/-- ITS FALSE NEIGHBOUR: 'it returns false'. Refute it at one input. -/
def stateTwinsWrong : ChangeSpec := { name := "stateTwins", fn := fun _ => fun
  | [d1, d2] => { results := [.lit (.bool false)], args := [d1, d2] }
  | _ => none }
def StateTwinsWrongFalsely : Prop := stateTwinsRow.holds Try.pinned (OpenSpec.ofChange stateTwinsWrong)

/-- 'choraguslaw19.StateCarried': WHATEVER THE INPUT: true; the input reads as it did. -/
def stateCarriedSpec : ChangeSpec := { name := "stateCarried", fn := fun _ => fun
  | [d1, d2, d3] => { results := [.lit (.bool true)], args := [d1, d2, d3] }
  | _ => none }
def stateCarriedRow : OpenClaim := { program := "ytjghcmejmdllbaa", sum := "d7de2e6b649dcd1158f5feda41235631a7357041a957de0f7d6c481f9b680ca2", func := "choragus/choraguslaw19.StateCarried", spec := "stateCarried", unfollowed := true, recurses := true, plainKeys := false, apart := false }
def StateCarriedSaid : Prop := stateCarriedRow.holds Try.pinned (OpenSpec.ofChange stateCarriedSpec)

/-- ITS FALSE NEIGHBOUR: 'it returns false'. Refute it at one input. -/
def stateCarriedWrong : ChangeSpec := { name := "stateCarried", fn := fun _ => fun
  | [d1, d2, d3] => { results := [.lit (.bool false)], args := [d1, d2, d3] }
  | _ => none }
def StateCarriedWrongFalsely : Prop := stateCarriedRow.holds Try.pinned (OpenSpec.ofChange stateCarriedWrong)

/-- 'choraguslaw19.StateNil': WHATEVER THE INPUT: true; the input reads as it did. -/
def stateNilSpec : ChangeSpec := { name := "stateNil", fn := fun _ => fun
  | [d1, d2] => { results := [.lit (.bool true)], args := [d1, d2] }
  | _ => none }
def stateNilRow : OpenClaim := { program := "ytjghcmejmdllbaa", sum := "d7de2e6b649dcd1158f5feda41235631a7357041a957de0f7d6c481f9b680ca2", func := "choragus/choraguslaw19.StateNil", spec := "stateNil", unfollowed := true, recurses := true, plainKeys := false, apart := false }
def StateNilSaid : Prop := stateNilRow.holds Try.pinned (OpenSpec.ofChange stateNilSpec)

/-- ITS FALSE NEIGHBOUR: 'it returns false'. Refute it at one input. -/
def stateNilWrong : ChangeSpec := { name := "stateNil", fn := fun _ => fun
  | [d1, d2] => { results := [.lit (.bool false)], args := [d1, d2] }
  | _ => none }
def StateNilWrongFalsely : Prop := stateNilRow.holds Try.pinned (OpenSpec.ofChange stateNilWrong)

/-- 'choraguslaw21.ElectRises': WHATEVER THE INPUT: true; the input reads as it did. -/
def electRisesSpec : ChangeSpec := { name := "electRises", fn := fun _ => fun
  | [d1, d2] => { results := [.lit (.bool true)], args := [d1, d2] }
  | _ => none }
def electRisesRow : OpenClaim := { program := "ytjghcmejmdllbaa", sum := "d7de2e6b649dcd1158f5feda41235631a7357041a957de0f7d6c481f9b680ca2", func := "choragus/choraguslaw21.ElectRises", spec := "electRises", unfollowed := true, recurses := true, plainKeys := false, apart := false }
def ElectRisesSaid : Prop := electRisesRow.holds Try.pinned (OpenSpec.ofChange electRisesSpec)

/-- ITS FALSE NEIGHBOUR: 'it returns false'. Refute it at one input. -/
def electRisesWrong : ChangeSpec := { name := "electRises", fn := fun _ => fun
  | [d1, d2] => { results := [.lit (.bool false)], args := [d1, d2] }
  | _ => none }
def ElectRisesWrongFalsely : Prop := electRisesRow.holds Try.pinned (OpenSpec.ofChange electRisesWrong)

/-- 'choraguslaw21.ElectNil': WHATEVER THE INPUT: true; the input reads as it did. -/
def electNilSpec : ChangeSpec := { name := "electNil", fn := fun _ => fun
  | [d1, d2, d3] => { results := [.lit (.bool true)], args := [d1, d2, d3] }
  | _ => none }
def electNilRow : OpenClaim := { program := "ytjghcmejmdllbaa", sum := "d7de2e6b649dcd1158f5feda41235631a7357041a957de0f7d6c481f9b680ca2", func := "choragus/choraguslaw21.ElectNil", spec := "electNil", unfollowed := true, recurses := true, plainKeys := false, apart := false }
def ElectNilSaid : Prop := electNilRow.holds Try.pinned (OpenSpec.ofChange electNilSpec)

/-- ITS FALSE NEIGHBOUR: 'it returns false'. Refute it at one input. -/
def electNilWrong : ChangeSpec := { name := "electNil", fn := fun _ => fun
  | [d1, d2, d3] => { results := [.lit (.bool false)], args := [d1, d2, d3] }
  | _ => none }
def ElectNilWrongFalsely : Prop := electNilRow.holds Try.pinned (OpenSpec.ofChange electNilWrong)

/-- 'choraguslaw19.StateBoards': WHATEVER THE INPUT: true; the input reads as it did. -/
def stateBoardsSpec : ChangeSpec := { name := "stateBoards", fn := fun _ => fun
  | [d1, d2] => { results := [.lit (.bool true)], args := [d1, d2] }
  | _ => none }
def stateBoardsRow : OpenClaim := { program := "ytjghcmejmdllbaa", sum := "d7de2e6b649dcd1158f5feda41235631a7357041a957de0f7d6c481f9b680ca2", func := "choragus/choraguslaw19.StateBoards", spec := "stateBoards", unfollowed := true, recurses := true, plainKeys := false, apart := false }
def StateBoardsSaid : Prop := stateBoardsRow.holds Try.pinned (OpenSpec.ofChange stateBoardsSpec)

/-- ITS FALSE NEIGHBOUR: 'it returns false'. Refute it at one input. -/
def stateBoardsWrong : ChangeSpec := { name := "stateBoards", fn := fun _ => fun
  | [d1, d2] => { results := [.lit (.bool false)], args := [d1, d2] }
  | _ => none }
def StateBoardsWrongFalsely : Prop := stateBoardsRow.holds Try.pinned (OpenSpec.ofChange stateBoardsWrong)

/-- 'choraguslaw21.ElectOne': WHATEVER THE INPUT: true; the input reads as it did. -/
def electOneSpec : ChangeSpec := { name := "electOne", fn := fun _ => fun
  | [d] => { results := [.lit (.bool true)], args := [d] }
  | _ => none }
def electOneRow : OpenClaim := { program := "ytjghcmejmdllbaa", sum := "d7de2e6b649dcd1158f5feda41235631a7357041a957de0f7d6c481f9b680ca2", func := "choragus/choraguslaw21.ElectOne", spec := "electOne", unfollowed := true, recurses := true, plainKeys := false, apart := false }
def ElectOneSaid : Prop := electOneRow.holds Try.pinned (OpenSpec.ofChange electOneSpec)

/-- ITS FALSE NEIGHBOUR: 'it returns false'. Refute it at one input. -/
def electOneWrong : ChangeSpec := { name := "electOne", fn := fun _ => fun
  | [d] => { results := [.lit (.bool false)], args := [d] }
  | _ => none }
def ElectOneWrongFalsely : Prop := electOneRow.holds Try.pinned (OpenSpec.ofChange electOneWrong)

/- THE SECOND FORM. 'bulk': how many values and letters a reading holds, each counted each time it is reached (what is shared counts as often as it is met; a slice's spare places count too). A statement '..UptoSaid' is the law's where the arguments, and the package variables that the reading takes, are together of bulk at most 1048576: NARROWER than '..Said'. Prove '..Said' where nothing that the law and all that it calls make is longer than what came in: it says more and counts as full. Else prove '..UptoSaid'. A law counts once. -/
mutual
def uptoBulk {H : Type} : DataW H → Nat
  | .lit (.string bytes) => bytes.length + 1
  | .lit _ => 1
  | .nil => 1
  | .ptr d => uptoBulk d + 1
  | .slice elems spare => uptoBulkAll elems + uptoBulkAll spare + 1
  | .agg parts => uptoBulkAll parts + 1
  | .iface _ d => uptoBulk d + 1
  | .map entries => uptoBulkEntries entries + 1
  | .held _ => 1
def uptoBulkAll {H : Type} : List (DataW H) → Nat
  | [] => 0
  | d :: r => uptoBulk d + uptoBulkAll r
def uptoBulkEntries {H : Type} : List (Lit × DataW H) → Nat
  | [] => 0
  | x :: r => uptoBulkEntry x + uptoBulkEntries r
def uptoBulkEntry {H : Type} : Lit × DataW H → Nat
  | (.string bytes, d) => bytes.length + uptoBulk d + 1
  | (_, d) => uptoBulk d + 1
 end
def uptoSmall : (H : Type) → List (DataW H) → Bool := fun _ ds => decide (uptoBulkAll ds ≤ 1048576)
def OpenSpec.upto (s : _root_.Go.ChangeSpec) : _root_.Go.OpenSpec := { _root_.Go.OpenSpec.ofChange s with cond := some uptoSmall }

/-- 'choraguslaw19.StateOnce', WHERE WHAT IT READS IS OF BULK AT MOST 1048576: true; the input reads as it did. -/
def stateOnceUptoRow : OpenClaim := { program := "ytjghcmejmdllbaa", sum := "d7de2e6b649dcd1158f5feda41235631a7357041a957de0f7d6c481f9b680ca2", func := "choragus/choraguslaw19.StateOnce", spec := "stateOnce", unfollowed := true, recurses := true, plainKeys := false, apart := false, narrowed := true }
def StateOnceUptoSaid : Prop := stateOnceUptoRow.holds Try.pinned (OpenSpec.upto stateOnceSpec)

/-- 'choraguslaw19.StatePlays', WHERE WHAT IT READS IS OF BULK AT MOST 1048576: true; the input reads as it did. -/
def statePlaysUptoRow : OpenClaim := { program := "ytjghcmejmdllbaa", sum := "d7de2e6b649dcd1158f5feda41235631a7357041a957de0f7d6c481f9b680ca2", func := "choragus/choraguslaw19.StatePlays", spec := "statePlays", unfollowed := true, recurses := true, plainKeys := false, apart := false, narrowed := true }
def StatePlaysUptoSaid : Prop := statePlaysUptoRow.holds Try.pinned (OpenSpec.upto statePlaysSpec)

/-- 'choraguslaw19.StateTwins', WHERE WHAT IT READS IS OF BULK AT MOST 1048576: true; the input reads as it did. -/
def stateTwinsUptoRow : OpenClaim := { program := "ytjghcmejmdllbaa", sum := "d7de2e6b649dcd1158f5feda41235631a7357041a957de0f7d6c481f9b680ca2", func := "choragus/choraguslaw19.StateTwins", spec := "stateTwins", unfollowed := true, recurses := true, plainKeys := false, apart := false, narrowed := true }
def StateTwinsUptoSaid : Prop := stateTwinsUptoRow.holds Try.pinned (OpenSpec.upto stateTwinsSpec)

/-- 'choraguslaw19.StateCarried', WHERE WHAT IT READS IS OF BULK AT MOST 1048576: true; the input reads as it did. -/
def stateCarriedUptoRow : OpenClaim := { program := "ytjghcmejmdllbaa", sum := "d7de2e6b649dcd1158f5feda41235631a7357041a957de0f7d6c481f9b680ca2", func := "choragus/choraguslaw19.StateCarried", spec := "stateCarried", unfollowed := true, recurses := true, plainKeys := false, apart := false, narrowed := true }
def StateCarriedUptoSaid : Prop := stateCarriedUptoRow.holds Try.pinned (OpenSpec.upto stateCarriedSpec)

/-- 'choraguslaw19.StateNil', WHERE WHAT IT READS IS OF BULK AT MOST 1048576: true; the input reads as it did. -/
def stateNilUptoRow : OpenClaim := { program := "ytjghcmejmdllbaa", sum := "d7de2e6b649dcd1158f5feda41235631a7357041a957de0f7d6c481f9b680ca2", func := "choragus/choraguslaw19.StateNil", spec := "stateNil", unfollowed := true, recurses := true, plainKeys := false, apart := false, narrowed := true }
def StateNilUptoSaid : Prop := stateNilUptoRow.holds Try.pinned (OpenSpec.upto stateNilSpec)

/-- 'choraguslaw21.ElectRises', WHERE WHAT IT READS IS OF BULK AT MOST 1048576: true; the input reads as it did. -/
def electRisesUptoRow : OpenClaim := { program := "ytjghcmejmdllbaa", sum := "d7de2e6b649dcd1158f5feda41235631a7357041a957de0f7d6c481f9b680ca2", func := "choragus/choraguslaw21.ElectRises", spec := "electRises", unfollowed := true, recurses := true, plainKeys := false, apart := false, narrowed := true }
def ElectRisesUptoSaid : Prop := electRisesUptoRow.holds Try.pinned (OpenSpec.upto electRisesSpec)

/-- 'choraguslaw21.ElectNil', WHERE WHAT IT READS IS OF BULK AT MOST 1048576: true; the input reads as it did. -/
def electNilUptoRow : OpenClaim := { program := "ytjghcmejmdllbaa", sum := "d7de2e6b649dcd1158f5feda41235631a7357041a957de0f7d6c481f9b680ca2", func := "choragus/choraguslaw21.ElectNil", spec := "electNil", unfollowed := true, recurses := true, plainKeys := false, apart := false, narrowed := true }
def ElectNilUptoSaid : Prop := electNilUptoRow.holds Try.pinned (OpenSpec.upto electNilSpec)

/-- 'choraguslaw19.StateBoards', WHERE WHAT IT READS IS OF BULK AT MOST 1048576: true; the input reads as it did. -/
def stateBoardsUptoRow : OpenClaim := { program := "ytjghcmejmdllbaa", sum := "d7de2e6b649dcd1158f5feda41235631a7357041a957de0f7d6c481f9b680ca2", func := "choragus/choraguslaw19.StateBoards", spec := "stateBoards", unfollowed := true, recurses := true, plainKeys := false, apart := false, narrowed := true }
def StateBoardsUptoSaid : Prop := stateBoardsUptoRow.holds Try.pinned (OpenSpec.upto stateBoardsSpec)

/-- 'choraguslaw21.ElectOne', WHERE WHAT IT READS IS OF BULK AT MOST 1048576: true; the input reads as it did. -/
def electOneUptoRow : OpenClaim := { program := "ytjghcmejmdllbaa", sum := "d7de2e6b649dcd1158f5feda41235631a7357041a957de0f7d6c481f9b680ca2", func := "choragus/choraguslaw21.ElectOne", spec := "electOne", unfollowed := true, recurses := true, plainKeys := false, apart := false, narrowed := true }
def ElectOneUptoSaid : Prop := electOneUptoRow.holds Try.pinned (OpenSpec.upto electOneSpec)

end Rows
end Go.Proofs.Ytjghcmejmdllbaa
