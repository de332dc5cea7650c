/-
  No cell of these rows narrows 'for every input' (looked for: loops, veiled, ifaces, maps, wideKeys, modest, calm, conditions, laid).
  DERIVED. THE GIVEN ROWS OF THIS SEAT. 10 by the template 'for every input the law returns true; each argument reads behind the call as it read before'; 0 by the template 'total and deterministic' (their statements: YtmokecicjmjkbaaTotals.lean).
  GIVEN WITH THE SEED: the statements are not yours to turn. If you find one false, say at which input.
  Laid BY PROGRAM, IN A SANDBOX (cutbox-rows.mjs): the forced cells as the released guide's own fill.sh prints them over the translation 34241782516a3734… (all of the seat's roots in one cut). By AI agents, Wed Nov 11 2026. No macro, syntax, notation, axiom, sorry.
-/
import Derived.Test.YtmokecicjmjkbaaChecked
import GoSem.Claim
import GoSem.ClaimJoined
import GoSem.ClaimMapViews
import Derived.JoinedTies
import Derived.KernelRfl
namespace Go.Proofs.Ytmokecicjmjkbaa
/- THE CELL 'sum', in the pinned program and in every row, IS THE sha256 OF THE DUMP (.gsa) THAT YtmokecicjmjkbaaProg.lean LOADS. Nothing in Lean hashes anything: it is a label: what it is worth is what the hold of that sum in a sandbox is worth. -/
noncomputable def Try.pinned : Pinned := { name := "ytmokecicjmjkbaa", sum := "34241782516a3734cf6092fd2de5e6473ca0353bffa1254db244112f39019e66", checked := Try.checked }
namespace Rows
def none {H : Type} : Left H := { results := [], args := [] }

/-- 'choraguslaw18.LedgerOwn': WHATEVER THE INPUT: true; the input reads as it did. -/
def ledgerOwnSpec : ChangeSpec := { name := "ledgerOwn", fn := fun _ => fun
  | [d] => { results := [.lit (.bool true)], args := [d] }
  | _ => none }
def ledgerOwnRow : OpenClaim := { program := "ytmokecicjmjkbaa", sum := "34241782516a3734cf6092fd2de5e6473ca0353bffa1254db244112f39019e66", func := "choragus/choraguslaw18.LedgerOwn", spec := "ledgerOwn", unfollowed := true, recurses := true, plainKeys := false, apart := false }
def LedgerOwnSaid : Prop := ledgerOwnRow.holds Try.pinned (OpenSpec.ofChange ledgerOwnSpec)

/-- ITS FALSE NEIGHBOUR: 'it returns false'. Refute it at one input. -/
def ledgerOwnWrong : ChangeSpec := { name := "ledgerOwn", fn := fun _ => fun
  | [d] => { results := [.lit (.bool false)], args := [d] }
  | _ => none }
def LedgerOwnWrongFalsely : Prop := ledgerOwnRow.holds Try.pinned (OpenSpec.ofChange ledgerOwnWrong)

/-- 'choraguslaw20.AcceptTells': WHATEVER THE INPUT: true; the input reads as it did. -/
def acceptTellsSpec : ChangeSpec := { name := "acceptTells", fn := fun _ => fun
  | [d1, d2, d3, d4, d5, d6] => { results := [.lit (.bool true)], args := [d1, d2, d3, d4, d5, d6] }
  | _ => none }
def acceptTellsRow : OpenClaim := { program := "ytmokecicjmjkbaa", sum := "34241782516a3734cf6092fd2de5e6473ca0353bffa1254db244112f39019e66", func := "choragus/choraguslaw20.AcceptTells", spec := "acceptTells", unfollowed := true, recurses := true, plainKeys := false, apart := false }
def AcceptTellsSaid : Prop := acceptTellsRow.holds Try.pinned (OpenSpec.ofChange acceptTellsSpec)

/-- ITS FALSE NEIGHBOUR: 'it returns false'. Refute it at one input. -/
def acceptTellsWrong : ChangeSpec := { name := "acceptTells", fn := fun _ => fun
  | [d1, d2, d3, d4, d5, d6] => { results := [.lit (.bool false)], args := [d1, d2, d3, d4, d5, d6] }
  | _ => none }
def AcceptTellsWrongFalsely : Prop := acceptTellsRow.holds Try.pinned (OpenSpec.ofChange acceptTellsWrong)

/-- 'choraguslaw18.LedgerBound': WHATEVER THE INPUT: true; the input reads as it did. -/
def ledgerBoundSpec : ChangeSpec := { name := "ledgerBound", fn := fun _ => fun
  | [d] => { results := [.lit (.bool true)], args := [d] }
  | _ => none }
def ledgerBoundRow : OpenClaim := { program := "ytmokecicjmjkbaa", sum := "34241782516a3734cf6092fd2de5e6473ca0353bffa1254db244112f39019e66", func := "choragus/choraguslaw18.LedgerBound", spec := "ledgerBound", unfollowed := true, recurses := true, plainKeys := false, apart := false }
def LedgerBoundSaid : Prop := ledgerBoundRow.holds Try.pinned (OpenSpec.ofChange ledgerBoundSpec)

/-- ITS FALSE NEIGHBOUR: 'it returns false'. Refute it at one input. -/
def ledgerBoundWrong : ChangeSpec := { name := "ledgerBound", fn := fun _ => fun
  | [d] => { results := [.lit (.bool false)], args := [d] }
  | _ => none }
def LedgerBoundWrongFalsely : Prop := ledgerBoundRow.holds Try.pinned (OpenSpec.ofChange ledgerBoundWrong)

/-- 'choraguslaw18.LedgerPlays': WHATEVER THE INPUT: true; the input reads as it did. -/
def ledgerPlaysSpec : ChangeSpec := { name := "ledgerPlays", fn := fun _ => fun
  | [d1, d2] => { results := [.lit (.bool true)], args := [d1, d2] }
  | _ => none }
def ledgerPlaysRow : OpenClaim := { program := "ytmokecicjmjkbaa", sum := "34241782516a3734cf6092fd2de5e6473ca0353bffa1254db244112f39019e66", func := "choragus/choraguslaw18.LedgerPlays", spec := "ledgerPlays", unfollowed := true, recurses := true, plainKeys := false, apart := false }
def LedgerPlaysSaid : Prop := ledgerPlaysRow.holds Try.pinned (OpenSpec.ofChange ledgerPlaysSpec)

/-- ITS FALSE NEIGHBOUR: 'it returns false'. Refute it at one input. -/
def ledgerPlaysWrong : ChangeSpec := { name := "ledgerPlays", fn := fun _ => fun
  | [d1, d2] => { results := [.lit (.bool false)], args := [d1, d2] }
  | _ => none }
def LedgerPlaysWrongFalsely : Prop := ledgerPlaysRow.holds Try.pinned (OpenSpec.ofChange ledgerPlaysWrong)

/-- 'choraguslaw18.LedgerNil': WHATEVER THE INPUT: true; the input reads as it did. -/
def ledgerNilSpec : ChangeSpec := { name := "ledgerNil", fn := fun _ => fun
  | [d1, d2] => { results := [.lit (.bool true)], args := [d1, d2] }
  | _ => none }
def ledgerNilRow : OpenClaim := { program := "ytmokecicjmjkbaa", sum := "34241782516a3734cf6092fd2de5e6473ca0353bffa1254db244112f39019e66", func := "choragus/choraguslaw18.LedgerNil", spec := "ledgerNil", unfollowed := true, recurses := true, plainKeys := false, apart := false }
def LedgerNilSaid : Prop := ledgerNilRow.holds Try.pinned (OpenSpec.ofChange ledgerNilSpec)

/-- ITS FALSE NEIGHBOUR: 'it returns false'. Refute it at one input. -/
def ledgerNilWrong : ChangeSpec := { name := "ledgerNil", fn := fun _ => fun
  | [d1, d2] => { results := [.lit (.bool false)], args := [d1, d2] }
  | _ => none }
def LedgerNilWrongFalsely : Prop := ledgerNilRow.holds Try.pinned (OpenSpec.ofChange ledgerNilWrong)

/-- 'choraguslaw20.AcceptPlays': WHATEVER THE INPUT: true; the input reads as it did. -/
def acceptPlaysSpec : ChangeSpec := { name := "acceptPlays", fn := fun _ => fun
  | [d1, d2] => { results := [.lit (.bool true)], args := [d1, d2] }
  | _ => none }
def acceptPlaysRow : OpenClaim := { program := "ytmokecicjmjkbaa", sum := "34241782516a3734cf6092fd2de5e6473ca0353bffa1254db244112f39019e66", func := "choragus/choraguslaw20.AcceptPlays", spec := "acceptPlays", unfollowed := true, recurses := true, plainKeys := false, apart := false }
def AcceptPlaysSaid : Prop := acceptPlaysRow.holds Try.pinned (OpenSpec.ofChange acceptPlaysSpec)

/-- ITS FALSE NEIGHBOUR: 'it returns false'. Refute it at one input. -/
def acceptPlaysWrong : ChangeSpec := { name := "acceptPlays", fn := fun _ => fun
  | [d1, d2] => { results := [.lit (.bool false)], args := [d1, d2] }
  | _ => none }
def AcceptPlaysWrongFalsely : Prop := acceptPlaysRow.holds Try.pinned (OpenSpec.ofChange acceptPlaysWrong)

/-- 'choraguslaw20.AcceptGrows': WHATEVER THE INPUT: true; the input reads as it did. -/
def acceptGrowsSpec : ChangeSpec := { name := "acceptGrows", fn := fun _ => fun
  | [d1, d2] => { results := [.lit (.bool true)], args := [d1, d2] }
  | _ => none }
def acceptGrowsRow : OpenClaim := { program := "ytmokecicjmjkbaa", sum := "34241782516a3734cf6092fd2de5e6473ca0353bffa1254db244112f39019e66", func := "choragus/choraguslaw20.AcceptGrows", spec := "acceptGrows", unfollowed := true, recurses := true, plainKeys := false, apart := false }
def AcceptGrowsSaid : Prop := acceptGrowsRow.holds Try.pinned (OpenSpec.ofChange acceptGrowsSpec)

/-- ITS FALSE NEIGHBOUR: 'it returns false'. Refute it at one input. -/
def acceptGrowsWrong : ChangeSpec := { name := "acceptGrows", fn := fun _ => fun
  | [d1, d2] => { results := [.lit (.bool false)], args := [d1, d2] }
  | _ => none }
def AcceptGrowsWrongFalsely : Prop := acceptGrowsRow.holds Try.pinned (OpenSpec.ofChange acceptGrowsWrong)

/-- 'choraguslaw20.AcceptNil': WHATEVER THE INPUT: true; the input reads as it did. -/
def acceptNilSpec : ChangeSpec := { name := "acceptNil", fn := fun _ => fun
  | [d1, d2, d3] => { results := [.lit (.bool true)], args := [d1, d2, d3] }
  | _ => none }
def acceptNilRow : OpenClaim := { program := "ytmokecicjmjkbaa", sum := "34241782516a3734cf6092fd2de5e6473ca0353bffa1254db244112f39019e66", func := "choragus/choraguslaw20.AcceptNil", spec := "acceptNil", unfollowed := true, recurses := true, plainKeys := false, apart := false }
def AcceptNilSaid : Prop := acceptNilRow.holds Try.pinned (OpenSpec.ofChange acceptNilSpec)

/-- ITS FALSE NEIGHBOUR: 'it returns false'. Refute it at one input. -/
def acceptNilWrong : ChangeSpec := { name := "acceptNil", fn := fun _ => fun
  | [d1, d2, d3] => { results := [.lit (.bool false)], args := [d1, d2, d3] }
  | _ => none }
def AcceptNilWrongFalsely : Prop := acceptNilRow.holds Try.pinned (OpenSpec.ofChange acceptNilWrong)

/-- 'choraguslaw18.LedgerReads': WHATEVER THE INPUT: true; the input reads as it did. -/
def ledgerReadsSpec : ChangeSpec := { name := "ledgerReads", fn := fun _ => fun
  | [d] => { results := [.lit (.bool true)], args := [d] }
  | _ => none }
def ledgerReadsRow : OpenClaim := { program := "ytmokecicjmjkbaa", sum := "34241782516a3734cf6092fd2de5e6473ca0353bffa1254db244112f39019e66", func := "choragus/choraguslaw18.LedgerReads", spec := "ledgerReads", unfollowed := true, recurses := true, plainKeys := false, apart := false }
def LedgerReadsSaid : Prop := ledgerReadsRow.holds Try.pinned (OpenSpec.ofChange ledgerReadsSpec)

/-- ITS FALSE NEIGHBOUR: 'it returns false'. Refute it at one input. -/
def ledgerReadsWrong : ChangeSpec := { name := "ledgerReads", fn := fun _ => fun
  | [d] => { results := [.lit (.bool false)], args := [d] }
  | _ => none }
def LedgerReadsWrongFalsely : Prop := ledgerReadsRow.holds Try.pinned (OpenSpec.ofChange ledgerReadsWrong)

/-- 'choraguslaw18.LedgerPacks': WHATEVER THE INPUT: true; the input reads as it did. -/
def ledgerPacksSpec : ChangeSpec := { name := "ledgerPacks", fn := fun _ => fun
  | [d1, d2, d3] => { results := [.lit (.bool true)], args := [d1, d2, d3] }
  | _ => none }
def ledgerPacksRow : OpenClaim := { program := "ytmokecicjmjkbaa", sum := "34241782516a3734cf6092fd2de5e6473ca0353bffa1254db244112f39019e66", func := "choragus/choraguslaw18.LedgerPacks", spec := "ledgerPacks", unfollowed := true, recurses := true, plainKeys := false, apart := false }
def LedgerPacksSaid : Prop := ledgerPacksRow.holds Try.pinned (OpenSpec.ofChange ledgerPacksSpec)

/-- ITS FALSE NEIGHBOUR: 'it returns false'. Refute it at one input. -/
def ledgerPacksWrong : ChangeSpec := { name := "ledgerPacks", fn := fun _ => fun
  | [d1, d2, d3] => { results := [.lit (.bool false)], args := [d1, d2, d3] }
  | _ => none }
def LedgerPacksWrongFalsely : Prop := ledgerPacksRow.holds Try.pinned (OpenSpec.ofChange ledgerPacksWrong)

/- THE SECOND FORM. 'bulk': how many values and letters a reading holds, each counted each time it is reached (what is shared counts as often as it is met; a slice's spare places count too). A statement '..UptoSaid' is the law's where the arguments, and the package variables that the reading takes, are together of bulk at most 1048576: NARROWER than '..Said'. Prove '..Said' where nothing that the law and all that it calls make is longer than what came in: it says more and counts as full. Else prove '..UptoSaid'. A law counts once. -/
mutual
def uptoBulk {H : Type} : DataW H → Nat
  | .lit (.string bytes) => bytes.length + 1
  | .lit _ => 1
  | .nil => 1
  | .ptr d => uptoBulk d + 1
  | .slice elems spare => uptoBulkAll elems + uptoBulkAll spare + 1
  | .agg parts => uptoBulkAll parts + 1
  | .iface _ d => uptoBulk d + 1
  | .map entries => uptoBulkEntries entries + 1
  | .held _ => 1
def uptoBulkAll {H : Type} : List (DataW H) → Nat
  | [] => 0
  | d :: r => uptoBulk d + uptoBulkAll r
def uptoBulkEntries {H : Type} : List (Lit × DataW H) → Nat
  | [] => 0
  | x :: r => uptoBulkEntry x + uptoBulkEntries r
def uptoBulkEntry {H : Type} : Lit × DataW H → Nat
  | (.string bytes, d) => bytes.length + uptoBulk d + 1
  | (_, d) => uptoBulk d + 1
 end
def uptoSmall : (H : Type) → List (DataW H) → Bool := fun _ ds => decide (uptoBulkAll ds ≤ 1048576)
def OpenSpec.upto (s : _root_.Go.ChangeSpec) : _root_.Go.OpenSpec := { _root_.Go.OpenSpec.ofChange s with cond := some uptoSmall }

/-- 'choraguslaw18.LedgerOwn', WHERE WHAT IT READS IS OF BULK AT MOST 1048576: true; the input reads as it did. -/
def ledgerOwnUptoRow : OpenClaim := { program := "ytmokecicjmjkbaa", sum := "34241782516a3734cf6092fd2de5e6473ca0353bffa1254db244112f39019e66", func := "choragus/choraguslaw18.LedgerOwn", spec := "ledgerOwn", unfollowed := true, recurses := true, plainKeys := false, apart := false, narrowed := true }
def LedgerOwnUptoSaid : Prop := ledgerOwnUptoRow.holds Try.pinned (OpenSpec.upto ledgerOwnSpec)

/-- 'choraguslaw20.AcceptTells', WHERE WHAT IT READS IS OF BULK AT MOST 1048576: true; the input reads as it did. -/
def acceptTellsUptoRow : OpenClaim := { program := "ytmokecicjmjkbaa", sum := "34241782516a3734cf6092fd2de5e6473ca0353bffa1254db244112f39019e66", func := "choragus/choraguslaw20.AcceptTells", spec := "acceptTells", unfollowed := true, recurses := true, plainKeys := false, apart := false, narrowed := true }
def AcceptTellsUptoSaid : Prop := acceptTellsUptoRow.holds Try.pinned (OpenSpec.upto acceptTellsSpec)

/-- 'choraguslaw18.LedgerBound', WHERE WHAT IT READS IS OF BULK AT MOST 1048576: true; the input reads as it did. -/
def ledgerBoundUptoRow : OpenClaim := { program := "ytmokecicjmjkbaa", sum := "34241782516a3734cf6092fd2de5e6473ca0353bffa1254db244112f39019e66", func := "choragus/choraguslaw18.LedgerBound", spec := "ledgerBound", unfollowed := true, recurses := true, plainKeys := false, apart := false, narrowed := true }
def LedgerBoundUptoSaid : Prop := ledgerBoundUptoRow.holds Try.pinned (OpenSpec.upto ledgerBoundSpec)

/-- 'choraguslaw18.LedgerPlays', WHERE WHAT IT READS IS OF BULK AT MOST 1048576: true; the input reads as it did. -/
def ledgerPlaysUptoRow : OpenClaim := { program := "ytmokecicjmjkbaa", sum := "34241782516a3734cf6092fd2de5e6473ca0353bffa1254db244112f39019e66", func := "choragus/choraguslaw18.LedgerPlays", spec := "ledgerPlays", unfollowed := true, recurses := true, plainKeys := false, apart := false, narrowed := true }
def LedgerPlaysUptoSaid : Prop := ledgerPlaysUptoRow.holds Try.pinned (OpenSpec.upto ledgerPlaysSpec)

/-- 'choraguslaw18.LedgerNil', WHERE WHAT IT READS IS OF BULK AT MOST 1048576: true; the input reads as it did. -/
def ledgerNilUptoRow : OpenClaim := { program := "ytmokecicjmjkbaa", sum := "34241782516a3734cf6092fd2de5e6473ca0353bffa1254db244112f39019e66", func := "choragus/choraguslaw18.LedgerNil", spec := "ledgerNil", unfollowed := true, recurses := true, plainKeys := false, apart := false, narrowed := true }
def LedgerNilUptoSaid : Prop := ledgerNilUptoRow.holds Try.pinned (OpenSpec.upto ledgerNilSpec)

/-- 'choraguslaw20.AcceptPlays', WHERE WHAT IT READS IS OF BULK AT MOST 1048576: true; the input reads as it did. -/
def acceptPlaysUptoRow : OpenClaim := { program := "ytmokecicjmjkbaa", sum := "34241782516a3734cf6092fd2de5e6473ca0353bffa1254db244112f39019e66", func := "choragus/choraguslaw20.AcceptPlays", spec := "acceptPlays", unfollowed := true, recurses := true, plainKeys := false, apart := false, narrowed := true }
def AcceptPlaysUptoSaid : Prop := acceptPlaysUptoRow.holds Try.pinned (OpenSpec.upto acceptPlaysSpec)

/-- 'choraguslaw20.AcceptGrows', WHERE WHAT IT READS IS OF BULK AT MOST 1048576: true; the input reads as it did. -/
def acceptGrowsUptoRow : OpenClaim := { program := "ytmokecicjmjkbaa", sum := "34241782516a3734cf6092fd2de5e6473ca0353bffa1254db244112f39019e66", func := "choragus/choraguslaw20.AcceptGrows", spec := "acceptGrows", unfollowed := true, recurses := true, plainKeys := false, apart := false, narrowed := true }
def AcceptGrowsUptoSaid : Prop := acceptGrowsUptoRow.holds Try.pinned (OpenSpec.upto acceptGrowsSpec)

/-- 'choraguslaw20.AcceptNil', WHERE WHAT IT READS IS OF BULK AT MOST 1048576: true; the input reads as it did. -/
def acceptNilUptoRow : OpenClaim := { program := "ytmokecicjmjkbaa", sum := "34241782516a3734cf6092fd2de5e6473ca0353bffa1254db244112f39019e66", func := "choragus/choraguslaw20.AcceptNil", spec := "acceptNil", unfollowed := true, recurses := true, plainKeys := false, apart := false, narrowed := true }
def AcceptNilUptoSaid : Prop := acceptNilUptoRow.holds Try.pinned (OpenSpec.upto acceptNilSpec)

/-- 'choraguslaw18.LedgerReads', WHERE WHAT IT READS IS OF BULK AT MOST 1048576: true; the input reads as it did. -/
def ledgerReadsUptoRow : OpenClaim := { program := "ytmokecicjmjkbaa", sum := "34241782516a3734cf6092fd2de5e6473ca0353bffa1254db244112f39019e66", func := "choragus/choraguslaw18.LedgerReads", spec := "ledgerReads", unfollowed := true, recurses := true, plainKeys := false, apart := false, narrowed := true }
def LedgerReadsUptoSaid : Prop := ledgerReadsUptoRow.holds Try.pinned (OpenSpec.upto ledgerReadsSpec)

/-- 'choraguslaw18.LedgerPacks', WHERE WHAT IT READS IS OF BULK AT MOST 1048576: true; the input reads as it did. -/
def ledgerPacksUptoRow : OpenClaim := { program := "ytmokecicjmjkbaa", sum := "34241782516a3734cf6092fd2de5e6473ca0353bffa1254db244112f39019e66", func := "choragus/choraguslaw18.LedgerPacks", spec := "ledgerPacks", unfollowed := true, recurses := true, plainKeys := false, apart := false, narrowed := true }
def LedgerPacksUptoSaid : Prop := ledgerPacksUptoRow.holds Try.pinned (OpenSpec.upto ledgerPacksSpec)

end Rows
end Go.Proofs.Ytmokecicjmjkbaa
