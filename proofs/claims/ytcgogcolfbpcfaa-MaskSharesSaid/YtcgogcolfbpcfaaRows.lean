/-
  No cell of these rows narrows 'for every input' (looked for: loops, veiled, ifaces, maps, wideKeys, modest, calm, conditions, laid).
  DERIVED. THE GIVEN ROWS OF THIS SEAT. 5 by the template 'for every input the law returns true; each argument reads behind the call as it read before'; 0 by the template 'total and deterministic' (their statements: YtcgogcolfbpcfaaTotals.lean).
  GIVEN WITH THE SEED: the statements are not yours to turn. If you find one false, say at which input.
  Laid BY PROGRAM, IN A SANDBOX (cutbox-rows.mjs): the forced cells as the released guide's own fill.sh prints them over the translation ca3194bab352a6fe… (all of the seat's roots in one cut). By AI agents, Wed Nov 11 2026. No macro, syntax, notation, axiom, sorry.
-/
import Derived.Test.YtcgogcolfbpcfaaChecked
import GoSem.Claim
import GoSem.ClaimJoined
import GoSem.ClaimMapViews
import Derived.JoinedTies
import Derived.KernelRfl
namespace Go.Proofs.Ytcgogcolfbpcfaa
/- THE CELL 'sum', in the pinned program and in every row, IS THE sha256 OF THE DUMP (.gsa) THAT YtcgogcolfbpcfaaProg.lean LOADS. Nothing in Lean hashes anything: it is a label: what it is worth is what the hold of that sum in a sandbox is worth. -/
noncomputable def Try.pinned : Pinned := { name := "ytcgogcolfbpcfaa", sum := "ca3194bab352a6fe9e112c6ca8b683098c087024b88ffc17c7e38de9e502e197", checked := Try.checked }
namespace Rows
def none {H : Type} : Left H := { results := [], args := [] }

/-- 'choraguslaw05.MaskMeet': WHATEVER THE INPUT: true; the input reads as it did. -/
def maskMeetSpec : ChangeSpec := { name := "maskMeet", fn := fun _ => fun
  | [d1, d2, d3] => { results := [.lit (.bool true)], args := [d1, d2, d3] }
  | _ => none }
def maskMeetRow : OpenClaim := { program := "ytcgogcolfbpcfaa", sum := "ca3194bab352a6fe9e112c6ca8b683098c087024b88ffc17c7e38de9e502e197", func := "choragus/choraguslaw05.MaskMeet", spec := "maskMeet", unfollowed := true, recurses := true, plainKeys := false, apart := false }
def MaskMeetSaid : Prop := maskMeetRow.holds Try.pinned (OpenSpec.ofChange maskMeetSpec)

/-- ITS FALSE NEIGHBOUR: 'it returns false'. Refute it at one input. -/
def maskMeetWrong : ChangeSpec := { name := "maskMeet", fn := fun _ => fun
  | [d1, d2, d3] => { results := [.lit (.bool false)], args := [d1, d2, d3] }
  | _ => none }
def MaskMeetWrongFalsely : Prop := maskMeetRow.holds Try.pinned (OpenSpec.ofChange maskMeetWrong)

/-- 'choraguslaw05.MaskRanks': WHATEVER THE INPUT: true; the input reads as it did. -/
def maskRanksSpec : ChangeSpec := { name := "maskRanks", fn := fun _ => fun
  | [d1, d2, d3] => { results := [.lit (.bool true)], args := [d1, d2, d3] }
  | _ => none }
def maskRanksRow : OpenClaim := { program := "ytcgogcolfbpcfaa", sum := "ca3194bab352a6fe9e112c6ca8b683098c087024b88ffc17c7e38de9e502e197", func := "choragus/choraguslaw05.MaskRanks", spec := "maskRanks", unfollowed := true, recurses := true, plainKeys := false, apart := false }
def MaskRanksSaid : Prop := maskRanksRow.holds Try.pinned (OpenSpec.ofChange maskRanksSpec)

/-- ITS FALSE NEIGHBOUR: 'it returns false'. Refute it at one input. -/
def maskRanksWrong : ChangeSpec := { name := "maskRanks", fn := fun _ => fun
  | [d1, d2, d3] => { results := [.lit (.bool false)], args := [d1, d2, d3] }
  | _ => none }
def MaskRanksWrongFalsely : Prop := maskRanksRow.holds Try.pinned (OpenSpec.ofChange maskRanksWrong)

/-- 'choraguslaw05.MaskLists': WHATEVER THE INPUT: true; the input reads as it did. -/
def maskListsSpec : ChangeSpec := { name := "maskLists", fn := fun _ => fun
  | [d1, d2] => { results := [.lit (.bool true)], args := [d1, d2] }
  | _ => none }
def maskListsRow : OpenClaim := { program := "ytcgogcolfbpcfaa", sum := "ca3194bab352a6fe9e112c6ca8b683098c087024b88ffc17c7e38de9e502e197", func := "choragus/choraguslaw05.MaskLists", spec := "maskLists", unfollowed := true, recurses := true, plainKeys := false, apart := false }
def MaskListsSaid : Prop := maskListsRow.holds Try.pinned (OpenSpec.ofChange maskListsSpec)

/-- ITS FALSE NEIGHBOUR: 'it returns false'. Refute it at one input. -/
def maskListsWrong : ChangeSpec := { name := "maskLists", fn := fun _ => fun
  | [d1, d2] => { results := [.lit (.bool false)], args := [d1, d2] }
  | _ => none }
def MaskListsWrongFalsely : Prop := maskListsRow.holds Try.pinned (OpenSpec.ofChange maskListsWrong)

/-- 'choraguslaw05.MaskFlips': WHATEVER THE INPUT: true; the input reads as it did. -/
def maskFlipsSpec : ChangeSpec := { name := "maskFlips", fn := fun _ => fun
  | [d1, d2, d3] => { results := [.lit (.bool true)], args := [d1, d2, d3] }
  | _ => none }
def maskFlipsRow : OpenClaim := { program := "ytcgogcolfbpcfaa", sum := "ca3194bab352a6fe9e112c6ca8b683098c087024b88ffc17c7e38de9e502e197", func := "choragus/choraguslaw05.MaskFlips", spec := "maskFlips", unfollowed := true, recurses := true, plainKeys := false, apart := false }
def MaskFlipsSaid : Prop := maskFlipsRow.holds Try.pinned (OpenSpec.ofChange maskFlipsSpec)

/-- ITS FALSE NEIGHBOUR: 'it returns false'. Refute it at one input. -/
def maskFlipsWrong : ChangeSpec := { name := "maskFlips", fn := fun _ => fun
  | [d1, d2, d3] => { results := [.lit (.bool false)], args := [d1, d2, d3] }
  | _ => none }
def MaskFlipsWrongFalsely : Prop := maskFlipsRow.holds Try.pinned (OpenSpec.ofChange maskFlipsWrong)

/-- 'choraguslaw05.MaskShares': WHATEVER THE INPUT: true; the input reads as it did. -/
def maskSharesSpec : ChangeSpec := { name := "maskShares", fn := fun _ => fun
  | [d] => { results := [.lit (.bool true)], args := [d] }
  | _ => none }
def maskSharesRow : OpenClaim := { program := "ytcgogcolfbpcfaa", sum := "ca3194bab352a6fe9e112c6ca8b683098c087024b88ffc17c7e38de9e502e197", func := "choragus/choraguslaw05.MaskShares", spec := "maskShares", unfollowed := true, recurses := true, plainKeys := false, apart := false }
def MaskSharesSaid : Prop := maskSharesRow.holds Try.pinned (OpenSpec.ofChange maskSharesSpec)

/-- ITS FALSE NEIGHBOUR: 'it returns false'. Refute it at one input. -/
def maskSharesWrong : ChangeSpec := { name := "maskShares", fn := fun _ => fun
  | [d] => { results := [.lit (.bool false)], args := [d] }
  | _ => none }
def MaskSharesWrongFalsely : Prop := maskSharesRow.holds Try.pinned (OpenSpec.ofChange maskSharesWrong)

/- THE SECOND FORM. 'bulk': how many values and letters a reading holds, each counted each time it is reached (what is shared counts as often as it is met; a slice's spare places count too). A statement '..UptoSaid' is the law's where the arguments, and the package variables that the reading takes, are together of bulk at most 1048576: NARROWER than '..Said'. Prove '..Said' where nothing that the law and all that it calls make is longer than what came in: it says more and counts as full. Else prove '..UptoSaid'. A law counts once. -/
mutual
def uptoBulk {H : Type} : DataW H → Nat
  | .lit (.string bytes) => bytes.length + 1
  | .lit _ => 1
  | .nil => 1
  | .ptr d => uptoBulk d + 1
  | .slice elems spare => uptoBulkAll elems + uptoBulkAll spare + 1
  | .agg parts => uptoBulkAll parts + 1
  | .iface _ d => uptoBulk d + 1
  | .map entries => uptoBulkEntries entries + 1
  | .held _ => 1
def uptoBulkAll {H : Type} : List (DataW H) → Nat
  | [] => 0
  | d :: r => uptoBulk d + uptoBulkAll r
def uptoBulkEntries {H : Type} : List (Lit × DataW H) → Nat
  | [] => 0
  | x :: r => uptoBulkEntry x + uptoBulkEntries r
def uptoBulkEntry {H : Type} : Lit × DataW H → Nat
  | (.string bytes, d) => bytes.length + uptoBulk d + 1
  | (_, d) => uptoBulk d + 1
 end
def uptoSmall : (H : Type) → List (DataW H) → Bool := fun _ ds => decide (uptoBulkAll ds ≤ 1048576)
def OpenSpec.upto (s : _root_.Go.ChangeSpec) : _root_.Go.OpenSpec := { _root_.Go.OpenSpec.ofChange s with cond := some uptoSmall }

/-- 'choraguslaw05.MaskMeet', WHERE WHAT IT READS IS OF BULK AT MOST 1048576: true; the input reads as it did. -/
def maskMeetUptoRow : OpenClaim := { program := "ytcgogcolfbpcfaa", sum := "ca3194bab352a6fe9e112c6ca8b683098c087024b88ffc17c7e38de9e502e197", func := "choragus/choraguslaw05.MaskMeet", spec := "maskMeet", unfollowed := true, recurses := true, plainKeys := false, apart := false, narrowed := true }
def MaskMeetUptoSaid : Prop := maskMeetUptoRow.holds Try.pinned (OpenSpec.upto maskMeetSpec)

/-- 'choraguslaw05.MaskRanks', WHERE WHAT IT READS IS OF BULK AT MOST 1048576: true; the input reads as it did. -/
def maskRanksUptoRow : OpenClaim := { program := "ytcgogcolfbpcfaa", sum := "ca3194bab352a6fe9e112c6ca8b683098c087024b88ffc17c7e38de9e502e197", func := "choragus/choraguslaw05.MaskRanks", spec := "maskRanks", unfollowed := true, recurses := true, plainKeys := false, apart := false, narrowed := true }
def MaskRanksUptoSaid : Prop := maskRanksUptoRow.holds Try.pinned (OpenSpec.upto maskRanksSpec)

/-- 'choraguslaw05.MaskLists', WHERE WHAT IT READS IS OF BULK AT MOST 1048576: true; the input reads as it did. -/
def maskListsUptoRow : OpenClaim := { program := "ytcgogcolfbpcfaa", sum := "ca3194bab352a6fe9e112c6ca8b683098c087024b88ffc17c7e38de9e502e197", func := "choragus/choraguslaw05.MaskLists", spec := "maskLists", unfollowed := true, recurses := true, plainKeys := false, apart := false, narrowed := true }
def MaskListsUptoSaid : Prop := maskListsUptoRow.holds Try.pinned (OpenSpec.upto maskListsSpec)

/-- 'choraguslaw05.MaskFlips', WHERE WHAT IT READS IS OF BULK AT MOST 1048576: true; the input reads as it did. -/
def maskFlipsUptoRow : OpenClaim := { program := "ytcgogcolfbpcfaa", sum := "ca3194bab352a6fe9e112c6ca8b683098c087024b88ffc17c7e38de9e502e197", func := "choragus/choraguslaw05.MaskFlips", spec := "maskFlips", unfollowed := true, recurses := true, plainKeys := false, apart := false, narrowed := true }
def MaskFlipsUptoSaid : Prop := maskFlipsUptoRow.holds Try.pinned (OpenSpec.upto maskFlipsSpec)

/-- 'choraguslaw05.MaskShares', WHERE WHAT IT READS IS OF BULK AT MOST 1048576: true; the input reads as it did. -/
def maskSharesUptoRow : OpenClaim := { program := "ytcgogcolfbpcfaa", sum := "ca3194bab352a6fe9e112c6ca8b683098c087024b88ffc17c7e38de9e502e197", func := "choragus/choraguslaw05.MaskShares", spec := "maskShares", unfollowed := true, recurses := true, plainKeys := false, apart := false, narrowed := true }
def MaskSharesUptoSaid : Prop := maskSharesUptoRow.holds Try.pinned (OpenSpec.upto maskSharesSpec)

end Rows
end Go.Proofs.Ytcgogcolfbpcfaa
