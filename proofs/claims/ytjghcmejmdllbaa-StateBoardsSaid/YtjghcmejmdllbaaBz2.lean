/- Contracts of layer 1's functions (bits) and of its references: what each call returns; the bounds on lengths stand in each. Contracts of layer 1's Put and its references; the bounds on lengths stand in each. Contracts of layer 1's references Form, Same, Width, Lent, Kept; the bounds on lengths stand in each. Contracts of layer 1's references Lent and Kept; the bounds on lengths stand in each. Contracts of layer 1's Get and of its reference Number; the bounds on lengths stand in each. More rules of the small logic of owned memory: an empty literal as a slice of the call's own, and append of any slice. No condition. The frame round a law: what a walk that returns true and writes nothing that was there gives of its row; the readings of arguments, opened. No condition. -/
import Derived.Test.YtjghcmejmdllbaaBz1
import Derived.Test.YtjghcmejmdllbaaRows
import Derived.Laws.BitsLemmas
import Derived.Laws.Bits64b
import Derived.ShutString
import Derived.ChangeOld
import Derived.Deep.Slices
import Derived.Deep.Fields
namespace Go.Proofs.Ytjghcmejmdllbaa
open Go.ChangeShapes Go.WideShapes Go.ChangeAt Go.RowKit
set_option linter.unusedVariables false
set_option linter.unusedSimpArgs false
theorem agg3 : ∀ W : World, (isAgg 3).run Try.prog W = .ok false W := fun _ => by kernel_rfl
theorem size3 : ∀ W : World, (sizeOf 3).run Try.prog W = .ok 1 W := fun _ => by kernel_rfl
theorem agg4 : ∀ W : World, (isAgg 4).run Try.prog W = .ok false W := fun _ => by kernel_rfl
theorem size4 : ∀ W : World, (sizeOf 4).run Try.prog W = .ok 1 W := fun _ => by kernel_rfl
theorem agg5 : ∀ W : World, (isAgg 5).run Try.prog W = .ok false W := fun _ => by kernel_rfl
theorem size5 : ∀ W : World, (sizeOf 5).run Try.prog W = .ok 1 W := fun _ => by kernel_rfl
theorem agg9 : ∀ W : World, (isAgg 9).run Try.prog W = .ok false W := fun _ => by kernel_rfl
theorem size9 : ∀ W : World, (sizeOf 9).run Try.prog W = .ok 1 W := fun _ => by kernel_rfl
theorem agg22 : ∀ W : World, (isAgg 22).run Try.prog W = .ok false W := fun _ => by kernel_rfl
theorem size22 : ∀ W : World, (sizeOf 22).run Try.prog W = .ok 1 W := fun _ => by kernel_rfl
theorem agg23 : ∀ W : World, (isAgg 23).run Try.prog W = .ok false W := fun _ => by kernel_rfl
theorem size23 : ∀ W : World, (sizeOf 23).run Try.prog W = .ok 1 W := fun _ => by kernel_rfl
theorem agg24 : ∀ W : World, (isAgg 24).run Try.prog W = .ok false W := fun _ => by kernel_rfl
theorem size24 : ∀ W : World, (sizeOf 24).run Try.prog W = .ok 1 W := fun _ => by kernel_rfl
theorem agg26 : ∀ W : World, (isAgg 26).run Try.prog W = .ok true W := fun _ => by kernel_rfl
theorem size26 : ∀ W : World, (sizeOf 26).run Try.prog W = .ok 4 W := fun _ => by kernel_rfl
theorem agg27 : ∀ W : World, (isAgg 27).run Try.prog W = .ok false W := fun _ => by kernel_rfl
theorem size27 : ∀ W : World, (sizeOf 27).run Try.prog W = .ok 1 W := fun _ => by kernel_rfl
theorem agg33 : ∀ W : World, (isAgg 33).run Try.prog W = .ok false W := fun _ => by kernel_rfl
theorem size33 : ∀ W : World, (sizeOf 33).run Try.prog W = .ok 1 W := fun _ => by kernel_rfl
theorem agg34 : ∀ W : World, (isAgg 34).run Try.prog W = .ok false W := fun _ => by kernel_rfl
theorem size34 : ∀ W : World, (sizeOf 34).run Try.prog W = .ok 1 W := fun _ => by kernel_rfl
theorem agg36 : ∀ W : World, (isAgg 36).run Try.prog W = .ok true W := fun _ => by kernel_rfl
theorem size36 : ∀ W : World, (sizeOf 36).run Try.prog W = .ok 2 W := fun _ => by kernel_rfl
theorem agg37 : ∀ W : World, (isAgg 37).run Try.prog W = .ok false W := fun _ => by kernel_rfl
theorem size37 : ∀ W : World, (sizeOf 37).run Try.prog W = .ok 1 W := fun _ => by kernel_rfl
theorem agg39 : ∀ W : World, (isAgg 39).run Try.prog W = .ok true W := fun _ => by kernel_rfl
theorem size39 : ∀ W : World, (sizeOf 39).run Try.prog W = .ok 9 W := fun _ => by kernel_rfl
theorem agg43 : ∀ W : World, (isAgg 43).run Try.prog W = .ok true W := fun _ => by kernel_rfl
theorem size43 : ∀ W : World, (sizeOf 43).run Try.prog W = .ok 10 W := fun _ => by kernel_rfl
theorem agg46 : ∀ W : World, (isAgg 46).run Try.prog W = .ok true W := fun _ => by kernel_rfl
theorem size46 : ∀ W : World, (sizeOf 46).run Try.prog W = .ok 8 W := fun _ => by kernel_rfl
theorem agg63 : ∀ W : World, (isAgg 63).run Try.prog W = .ok false W := fun _ => by kernel_rfl
theorem size63 : ∀ W : World, (sizeOf 63).run Try.prog W = .ok 1 W := fun _ => by kernel_rfl
theorem agg67 : ∀ W : World, (isAgg 67).run Try.prog W = .ok true W := fun _ => by kernel_rfl
theorem size67 : ∀ W : World, (sizeOf 67).run Try.prog W = .ok 3 W := fun _ => by kernel_rfl
theorem agg74 : ∀ W : World, (isAgg 74).run Try.prog W = .ok true W := fun _ => by kernel_rfl
theorem size74 : ∀ W : World, (sizeOf 74).run Try.prog W = .ok 29 W := fun _ => by kernel_rfl
theorem agg76 : ∀ W : World, (isAgg 76).run Try.prog W = .ok true W := fun _ => by kernel_rfl
theorem size76 : ∀ W : World, (sizeOf 76).run Try.prog W = .ok 48 W := fun _ => by kernel_rfl
theorem agg81 : ∀ W : World, (isAgg 81).run Try.prog W = .ok false W := fun _ => by kernel_rfl
theorem size81 : ∀ W : World, (sizeOf 81).run Try.prog W = .ok 1 W := fun _ => by kernel_rfl
theorem agg102 : ∀ W : World, (isAgg 102).run Try.prog W = .ok true W := fun _ => by kernel_rfl
theorem size102 : ∀ W : World, (sizeOf 102).run Try.prog W = .ok 3 W := fun _ => by kernel_rfl
theorem agg103 : ∀ W : World, (isAgg 103).run Try.prog W = .ok false W := fun _ => by kernel_rfl
theorem size103 : ∀ W : World, (sizeOf 103).run Try.prog W = .ok 1 W := fun _ => by kernel_rfl
theorem agg104 : ∀ W : World, (isAgg 104).run Try.prog W = .ok true W := fun _ => by kernel_rfl
theorem size104 : ∀ W : World, (sizeOf 104).run Try.prog W = .ok 3 W := fun _ => by kernel_rfl
theorem agg114 : ∀ W : World, (isAgg 114).run Try.prog W = .ok false W := fun _ => by kernel_rfl
theorem size114 : ∀ W : World, (sizeOf 114).run Try.prog W = .ok 1 W := fun _ => by kernel_rfl
theorem agg125 : ∀ W : World, (isAgg 125).run Try.prog W = .ok false W := fun _ => by kernel_rfl
theorem size125 : ∀ W : World, (sizeOf 125).run Try.prog W = .ok 1 W := fun _ => by kernel_rfl
theorem agg127 : ∀ W : World, (isAgg 127).run Try.prog W = .ok true W := fun _ => by kernel_rfl
theorem size127 : ∀ W : World, (sizeOf 127).run Try.prog W = .ok 2 W := fun _ => by kernel_rfl
theorem agg143 : ∀ W : World, (isAgg 143).run Try.prog W = .ok false W := fun _ => by kernel_rfl
theorem size143 : ∀ W : World, (sizeOf 143).run Try.prog W = .ok 1 W := fun _ => by kernel_rfl
theorem agg154 : ∀ W : World, (isAgg 154).run Try.prog W = .ok false W := fun _ => by kernel_rfl
theorem size154 : ∀ W : World, (sizeOf 154).run Try.prog W = .ok 1 W := fun _ => by kernel_rfl
theorem agg184 : ∀ W : World, (isAgg 184).run Try.prog W = .ok true W := fun _ => by kernel_rfl
theorem size184 : ∀ W : World, (sizeOf 184).run Try.prog W = .ok 0 W := fun _ => by kernel_rfl
theorem agg187 : ∀ W : World, (isAgg 187).run Try.prog W = .ok false W := fun _ => by kernel_rfl
theorem size187 : ∀ W : World, (sizeOf 187).run Try.prog W = .ok 1 W := fun _ => by kernel_rfl
theorem zero26 : ∀ W : World, (zeroValue 26).run Try.prog W = .ok (.agg #[(.int .u64 0), (.slice none 0 0), (.slice none 0 0), (.slice none 0 0)]) W := fun _ => by kernel_rfl
theorem zero36 : ∀ W : World, (zeroValue 36).run Try.prog W = .ok (.agg #[(.int .u16 0), (.int .u32 0)]) W := fun _ => by kernel_rfl
theorem zero37 : ∀ W : World, (zeroValue 37).run Try.prog W = .ok (.slice none 0 0) W := fun _ => by kernel_rfl
theorem zero39 : ∀ W : World, (zeroValue 39).run Try.prog W = .ok (.agg #[(.int .i64 0), (.int .u64 0), (.slice none 0 0), (.slice none 0 0), (.slice none 0 0), (.int .u16 0), (.int .u32 0), (.int .u64 0), (.slice none 0 0)]) W := fun _ => by kernel_rfl
theorem zero43 : ∀ W : World, (zeroValue 43).run Try.prog W = .ok (.agg #[(.int .i64 0), (.int .u16 0), (.int .u32 0), (.int .u64 0), (.int .u64 0), (.slice none 0 0), (.int .u64 0), (.slice none 0 0), (.slice none 0 0), (.slice none 0 0)]) W := fun _ => by kernel_rfl
theorem zero46 : ∀ W : World, (zeroValue 46).run Try.prog W = .ok (.agg #[(.string ByteArray.empty), (.string ByteArray.empty), (.string ByteArray.empty), (.string ByteArray.empty), (.string ByteArray.empty), (.string ByteArray.empty), (.string ByteArray.empty), (.string ByteArray.empty)]) W := fun _ => by kernel_rfl
theorem zero67 : ∀ W : World, (zeroValue 67).run Try.prog W = .ok (.agg #[(.int .u32 0), (.int .u16 0), (.int .u32 0)]) W := fun _ => by kernel_rfl
theorem zero74 : ∀ W : World, (zeroValue 74).run Try.prog W = .ok (.agg #[(.int .i64 0), (.int .u16 0), (.int .u32 0), (.int .u64 0), (.int .u64 0), (.int .u64 0), (.int .i64 0), (.int .u32 0), (.int .u16 0), (.int .u32 0), (.int .u32 0), (.int .u16 0), (.int .u32 0), (.bool false), (.int .i64 0), (.int .u16 0), (.int .u32 0), (.int .u64 0), (.int .u64 0), (.slice none 0 0), (.int .u64 0), (.slice none 0 0), (.slice none 0 0), (.slice none 0 0), (.int .u64 0), (.slice none 0 0), (.slice none 0 0), (.slice none 0 0), (.slice none 0 0)]) W := fun _ => by kernel_rfl
theorem zero102 : ∀ W : World, (zeroValue 102).run Try.prog W = .ok (.agg #[(.pointer none), (.pointer none), (.pointer none)]) W := fun _ => by kernel_rfl
theorem zero104 : ∀ W : World, (zeroValue 104).run Try.prog W = .ok (.agg #[(.pointer none), (.pointer none), (.pointer none)]) W := fun _ => by kernel_rfl
theorem zero127 : ∀ W : World, (zeroValue 127).run Try.prog W = .ok (.agg #[(.int .u64 0), (.int .u64 0)]) W := fun _ => by kernel_rfl
theorem zero184 : ∀ W : World, (zeroValue 184).run Try.prog W = .ok (.agg #[]) W := fun _ => by kernel_rfl
theorem cpsz37 : (Try.prog.info? 5).map (·.size) = some 1 := by kernel_rfl
theorem info5 : (Try.prog.info? 5).map (fun i => (i.zero, i.size, i.bytes)) = some (some (.int .u8 0), 1, 1) := by kernel_rfl
theorem zero5 : ∀ W : World, (zeroValue 5).run Try.prog W = .ok (.int .u8 0) W := fun _ => by kernel_rfl
theorem info23 : (Try.prog.info? 23).map (fun i => (i.zero, i.size, i.bytes)) = some (some (.slice none 0 0), 1, 24) := by kernel_rfl
theorem zero23 : ∀ W : World, (zeroValue 23).run Try.prog W = .ok (.slice none 0 0) W := fun _ => by kernel_rfl
theorem info36 : (Try.prog.info? 36).map (fun i => (i.zero, i.size, i.bytes)) = some (some (.agg #[(.int .u16 0), (.int .u32 0)]), 2, 8) := by kernel_rfl
theorem info39 : (Try.prog.info? 39).map (fun i => (i.zero, i.size, i.bytes)) = some (some (.agg #[(.int .i64 0), (.int .u64 0), (.slice none 0 0), (.slice none 0 0), (.slice none 0 0), (.int .u16 0), (.int .u32 0), (.int .u64 0), (.slice none 0 0)]), 9, 128) := by kernel_rfl
theorem info43 : (Try.prog.info? 43).map (fun i => (i.zero, i.size, i.bytes)) = some (some (.agg #[(.int .i64 0), (.int .u16 0), (.int .u32 0), (.int .u64 0), (.int .u64 0), (.slice none 0 0), (.int .u64 0), (.slice none 0 0), (.slice none 0 0), (.slice none 0 0)]), 10, 136) := by kernel_rfl
theorem info67 : (Try.prog.info? 67).map (fun i => (i.zero, i.size, i.bytes)) = some (some (.agg #[(.int .u32 0), (.int .u16 0), (.int .u32 0)]), 3, 12) := by kernel_rfl
theorem ent12 : ∀ (xs : Array Value) (W : World), (callFunc 12 xs).run Try.prog W = .ok (.enter 12 xs) W := fun _ _ => by kernel_rfl
theorem ent13 : ∀ (xs : Array Value) (W : World), (callFunc 13 xs).run Try.prog W = .ok (.enter 13 xs) W := fun _ _ => by kernel_rfl
theorem ent14 : ∀ (xs : Array Value) (W : World), (callFunc 14 xs).run Try.prog W = .ok (.enter 14 xs) W := fun _ _ => by kernel_rfl
theorem ent15 : ∀ (xs : Array Value) (W : World), (callFunc 15 xs).run Try.prog W = .ok (.enter 15 xs) W := fun _ _ => by kernel_rfl
theorem ent16 : ∀ (xs : Array Value) (W : World), (callFunc 16 xs).run Try.prog W = .ok (.enter 16 xs) W := fun _ _ => by kernel_rfl
theorem ent17 : ∀ (xs : Array Value) (W : World), (callFunc 17 xs).run Try.prog W = .ok (.enter 17 xs) W := fun _ _ => by kernel_rfl
theorem ent18 : ∀ (xs : Array Value) (W : World), (callFunc 18 xs).run Try.prog W = .ok (.enter 18 xs) W := fun _ _ => by kernel_rfl
theorem ent19 : ∀ (xs : Array Value) (W : World), (callFunc 19 xs).run Try.prog W = .ok (.enter 19 xs) W := fun _ _ => by kernel_rfl
theorem ent20 : ∀ (xs : Array Value) (W : World), (callFunc 20 xs).run Try.prog W = .ok (.enter 20 xs) W := fun _ _ => by kernel_rfl
theorem ent21 : ∀ (xs : Array Value) (W : World), (callFunc 21 xs).run Try.prog W = .ok (.enter 21 xs) W := fun _ _ => by kernel_rfl
theorem ent22 : ∀ (xs : Array Value) (W : World), (callFunc 22 xs).run Try.prog W = .ok (.enter 22 xs) W := fun _ _ => by kernel_rfl
theorem ent23 : ∀ (xs : Array Value) (W : World), (callFunc 23 xs).run Try.prog W = .ok (.enter 23 xs) W := fun _ _ => by kernel_rfl
theorem ent24 : ∀ (xs : Array Value) (W : World), (callFunc 24 xs).run Try.prog W = .ok (.enter 24 xs) W := fun _ _ => by kernel_rfl
theorem ent25 : ∀ (xs : Array Value) (W : World), (callFunc 25 xs).run Try.prog W = .ok (.enter 25 xs) W := fun _ _ => by kernel_rfl
theorem ent26 : ∀ (xs : Array Value) (W : World), (callFunc 26 xs).run Try.prog W = .ok (.enter 26 xs) W := fun _ _ => by kernel_rfl
theorem ent27 : ∀ (xs : Array Value) (W : World), (callFunc 27 xs).run Try.prog W = .ok (.enter 27 xs) W := fun _ _ => by kernel_rfl
theorem ent28 : ∀ (xs : Array Value) (W : World), (callFunc 28 xs).run Try.prog W = .ok (.enter 28 xs) W := fun _ _ => by kernel_rfl
theorem ent29 : ∀ (xs : Array Value) (W : World), (callFunc 29 xs).run Try.prog W = .ok (.enter 29 xs) W := fun _ _ => by kernel_rfl
theorem ent30 : ∀ (xs : Array Value) (W : World), (callFunc 30 xs).run Try.prog W = .ok (.enter 30 xs) W := fun _ _ => by kernel_rfl
theorem ent31 : ∀ (xs : Array Value) (W : World), (callFunc 31 xs).run Try.prog W = .ok (.enter 31 xs) W := fun _ _ => by kernel_rfl
theorem ent32 : ∀ (xs : Array Value) (W : World), (callFunc 32 xs).run Try.prog W = .ok (.enter 32 xs) W := fun _ _ => by kernel_rfl
theorem ent33 : ∀ (xs : Array Value) (W : World), (callFunc 33 xs).run Try.prog W = .ok (.enter 33 xs) W := fun _ _ => by kernel_rfl
theorem ent34 : ∀ (xs : Array Value) (W : World), (callFunc 34 xs).run Try.prog W = .ok (.enter 34 xs) W := fun _ _ => by kernel_rfl
theorem ent35 : ∀ (xs : Array Value) (W : World), (callFunc 35 xs).run Try.prog W = .ok (.enter 35 xs) W := fun _ _ => by kernel_rfl
theorem ent36 : ∀ (xs : Array Value) (W : World), (callFunc 36 xs).run Try.prog W = .ok (.enter 36 xs) W := fun _ _ => by kernel_rfl
theorem ent37 : ∀ (xs : Array Value) (W : World), (callFunc 37 xs).run Try.prog W = .ok (.enter 37 xs) W := fun _ _ => by kernel_rfl
theorem ent38 : ∀ (xs : Array Value) (W : World), (callFunc 38 xs).run Try.prog W = .ok (.enter 38 xs) W := fun _ _ => by kernel_rfl
theorem ent39 : ∀ (xs : Array Value) (W : World), (callFunc 39 xs).run Try.prog W = .ok (.enter 39 xs) W := fun _ _ => by kernel_rfl
theorem ent40 : ∀ (xs : Array Value) (W : World), (callFunc 40 xs).run Try.prog W = .ok (.enter 40 xs) W := fun _ _ => by kernel_rfl
theorem ent41 : ∀ (xs : Array Value) (W : World), (callFunc 41 xs).run Try.prog W = .ok (.enter 41 xs) W := fun _ _ => by kernel_rfl
theorem ent42 : ∀ (xs : Array Value) (W : World), (callFunc 42 xs).run Try.prog W = .ok (.enter 42 xs) W := fun _ _ => by kernel_rfl
theorem ent43 : ∀ (xs : Array Value) (W : World), (callFunc 43 xs).run Try.prog W = .ok (.enter 43 xs) W := fun _ _ => by kernel_rfl
theorem ent44 : ∀ (xs : Array Value) (W : World), (callFunc 44 xs).run Try.prog W = .ok (.enter 44 xs) W := fun _ _ => by kernel_rfl
theorem ent45 : ∀ (xs : Array Value) (W : World), (callFunc 45 xs).run Try.prog W = .ok (.enter 45 xs) W := fun _ _ => by kernel_rfl
theorem ent46 : ∀ (xs : Array Value) (W : World), (callFunc 46 xs).run Try.prog W = .ok (.enter 46 xs) W := fun _ _ => by kernel_rfl
theorem ent47 : ∀ (xs : Array Value) (W : World), (callFunc 47 xs).run Try.prog W = .ok (.enter 47 xs) W := fun _ _ => by kernel_rfl
theorem ent48 : ∀ (xs : Array Value) (W : World), (callFunc 48 xs).run Try.prog W = .ok (.enter 48 xs) W := fun _ _ => by kernel_rfl
theorem ent49 : ∀ (xs : Array Value) (W : World), (callFunc 49 xs).run Try.prog W = .ok (.enter 49 xs) W := fun _ _ => by kernel_rfl
theorem ent50 : ∀ (xs : Array Value) (W : World), (callFunc 50 xs).run Try.prog W = .ok (.enter 50 xs) W := fun _ _ => by kernel_rfl
theorem ent51 : ∀ (xs : Array Value) (W : World), (callFunc 51 xs).run Try.prog W = .ok (.enter 51 xs) W := fun _ _ => by kernel_rfl
theorem ent52 : ∀ (xs : Array Value) (W : World), (callFunc 52 xs).run Try.prog W = .ok (.enter 52 xs) W := fun _ _ => by kernel_rfl
theorem ent53 : ∀ (xs : Array Value) (W : World), (callFunc 53 xs).run Try.prog W = .ok (.enter 53 xs) W := fun _ _ => by kernel_rfl
theorem ent54 : ∀ (xs : Array Value) (W : World), (callFunc 54 xs).run Try.prog W = .ok (.enter 54 xs) W := fun _ _ => by kernel_rfl
theorem ent55 : ∀ (xs : Array Value) (W : World), (callFunc 55 xs).run Try.prog W = .ok (.enter 55 xs) W := fun _ _ => by kernel_rfl
theorem ent56 : ∀ (xs : Array Value) (W : World), (callFunc 56 xs).run Try.prog W = .ok (.enter 56 xs) W := fun _ _ => by kernel_rfl
theorem ent57 : ∀ (xs : Array Value) (W : World), (callFunc 57 xs).run Try.prog W = .ok (.enter 57 xs) W := fun _ _ => by kernel_rfl
theorem ent58 : ∀ (xs : Array Value) (W : World), (callFunc 58 xs).run Try.prog W = .ok (.enter 58 xs) W := fun _ _ => by kernel_rfl
theorem ent59 : ∀ (xs : Array Value) (W : World), (callFunc 59 xs).run Try.prog W = .ok (.enter 59 xs) W := fun _ _ => by kernel_rfl
theorem ent60 : ∀ (xs : Array Value) (W : World), (callFunc 60 xs).run Try.prog W = .ok (.enter 60 xs) W := fun _ _ => by kernel_rfl
theorem ent61 : ∀ (xs : Array Value) (W : World), (callFunc 61 xs).run Try.prog W = .ok (.enter 61 xs) W := fun _ _ => by kernel_rfl
theorem ent62 : ∀ (xs : Array Value) (W : World), (callFunc 62 xs).run Try.prog W = .ok (.enter 62 xs) W := fun _ _ => by kernel_rfl
theorem ent63 : ∀ (xs : Array Value) (W : World), (callFunc 63 xs).run Try.prog W = .ok (.enter 63 xs) W := fun _ _ => by kernel_rfl
theorem ent64 : ∀ (xs : Array Value) (W : World), (callFunc 64 xs).run Try.prog W = .ok (.enter 64 xs) W := fun _ _ => by kernel_rfl
theorem ent65 : ∀ (xs : Array Value) (W : World), (callFunc 65 xs).run Try.prog W = .ok (.enter 65 xs) W := fun _ _ => by kernel_rfl
theorem ent66 : ∀ (xs : Array Value) (W : World), (callFunc 66 xs).run Try.prog W = .ok (.enter 66 xs) W := fun _ _ => by kernel_rfl
theorem ent67 : ∀ (xs : Array Value) (W : World), (callFunc 67 xs).run Try.prog W = .ok (.enter 67 xs) W := fun _ _ => by kernel_rfl
theorem ent68 : ∀ (xs : Array Value) (W : World), (callFunc 68 xs).run Try.prog W = .ok (.enter 68 xs) W := fun _ _ => by kernel_rfl
theorem ent69 : ∀ (xs : Array Value) (W : World), (callFunc 69 xs).run Try.prog W = .ok (.enter 69 xs) W := fun _ _ => by kernel_rfl
theorem ent70 : ∀ (xs : Array Value) (W : World), (callFunc 70 xs).run Try.prog W = .ok (.enter 70 xs) W := fun _ _ => by kernel_rfl
theorem ent71 : ∀ (xs : Array Value) (W : World), (callFunc 71 xs).run Try.prog W = .ok (.enter 71 xs) W := fun _ _ => by kernel_rfl
theorem ent72 : ∀ (xs : Array Value) (W : World), (callFunc 72 xs).run Try.prog W = .ok (.enter 72 xs) W := fun _ _ => by kernel_rfl
theorem ent73 : ∀ (xs : Array Value) (W : World), (callFunc 73 xs).run Try.prog W = .ok (.enter 73 xs) W := fun _ _ => by kernel_rfl
theorem ent74 : ∀ (xs : Array Value) (W : World), (callFunc 74 xs).run Try.prog W = .ok (.enter 74 xs) W := fun _ _ => by kernel_rfl
theorem ent75 : ∀ (xs : Array Value) (W : World), (callFunc 75 xs).run Try.prog W = .ok (.enter 75 xs) W := fun _ _ => by kernel_rfl
theorem ent76 : ∀ (xs : Array Value) (W : World), (callFunc 76 xs).run Try.prog W = .ok (.enter 76 xs) W := fun _ _ => by kernel_rfl
theorem ent77 : ∀ (xs : Array Value) (W : World), (callFunc 77 xs).run Try.prog W = .ok (.enter 77 xs) W := fun _ _ => by kernel_rfl
theorem ent78 : ∀ (xs : Array Value) (W : World), (callFunc 78 xs).run Try.prog W = .ok (.enter 78 xs) W := fun _ _ => by kernel_rfl
theorem ent79 : ∀ (xs : Array Value) (W : World), (callFunc 79 xs).run Try.prog W = .ok (.enter 79 xs) W := fun _ _ => by kernel_rfl
theorem ent80 : ∀ (xs : Array Value) (W : World), (callFunc 80 xs).run Try.prog W = .ok (.enter 80 xs) W := fun _ _ => by kernel_rfl
theorem ent81 : ∀ (xs : Array Value) (W : World), (callFunc 81 xs).run Try.prog W = .ok (.enter 81 xs) W := fun _ _ => by kernel_rfl
theorem ent82 : ∀ (xs : Array Value) (W : World), (callFunc 82 xs).run Try.prog W = .ok (.enter 82 xs) W := fun _ _ => by kernel_rfl
theorem ent83 : ∀ (xs : Array Value) (W : World), (callFunc 83 xs).run Try.prog W = .ok (.enter 83 xs) W := fun _ _ => by kernel_rfl
theorem ent84 : ∀ (xs : Array Value) (W : World), (callFunc 84 xs).run Try.prog W = .ok (.enter 84 xs) W := fun _ _ => by kernel_rfl
theorem ent85 : ∀ (xs : Array Value) (W : World), (callFunc 85 xs).run Try.prog W = .ok (.enter 85 xs) W := fun _ _ => by kernel_rfl
theorem ent86 : ∀ (xs : Array Value) (W : World), (callFunc 86 xs).run Try.prog W = .ok (.enter 86 xs) W := fun _ _ => by kernel_rfl
theorem ent87 : ∀ (xs : Array Value) (W : World), (callFunc 87 xs).run Try.prog W = .ok (.enter 87 xs) W := fun _ _ => by kernel_rfl
theorem ent88 : ∀ (xs : Array Value) (W : World), (callFunc 88 xs).run Try.prog W = .ok (.enter 88 xs) W := fun _ _ => by kernel_rfl
theorem ent89 : ∀ (xs : Array Value) (W : World), (callFunc 89 xs).run Try.prog W = .ok (.enter 89 xs) W := fun _ _ => by kernel_rfl
theorem ent90 : ∀ (xs : Array Value) (W : World), (callFunc 90 xs).run Try.prog W = .ok (.enter 90 xs) W := fun _ _ => by kernel_rfl
theorem ent91 : ∀ (xs : Array Value) (W : World), (callFunc 91 xs).run Try.prog W = .ok (.enter 91 xs) W := fun _ _ => by kernel_rfl
theorem ent92 : ∀ (xs : Array Value) (W : World), (callFunc 92 xs).run Try.prog W = .ok (.enter 92 xs) W := fun _ _ => by kernel_rfl
theorem ent93 : ∀ (xs : Array Value) (W : World), (callFunc 93 xs).run Try.prog W = .ok (.enter 93 xs) W := fun _ _ => by kernel_rfl
theorem ent94 : ∀ (xs : Array Value) (W : World), (callFunc 94 xs).run Try.prog W = .ok (.enter 94 xs) W := fun _ _ => by kernel_rfl
theorem ent95 : ∀ (xs : Array Value) (W : World), (callFunc 95 xs).run Try.prog W = .ok (.enter 95 xs) W := fun _ _ => by kernel_rfl
theorem ent96 : ∀ (xs : Array Value) (W : World), (callFunc 96 xs).run Try.prog W = .ok (.enter 96 xs) W := fun _ _ => by kernel_rfl
theorem ent97 : ∀ (xs : Array Value) (W : World), (callFunc 97 xs).run Try.prog W = .ok (.enter 97 xs) W := fun _ _ => by kernel_rfl
theorem ent98 : ∀ (xs : Array Value) (W : World), (callFunc 98 xs).run Try.prog W = .ok (.enter 98 xs) W := fun _ _ => by kernel_rfl
theorem ent99 : ∀ (xs : Array Value) (W : World), (callFunc 99 xs).run Try.prog W = .ok (.enter 99 xs) W := fun _ _ => by kernel_rfl
theorem ent100 : ∀ (xs : Array Value) (W : World), (callFunc 100 xs).run Try.prog W = .ok (.enter 100 xs) W := fun _ _ => by kernel_rfl
theorem ent101 : ∀ (xs : Array Value) (W : World), (callFunc 101 xs).run Try.prog W = .ok (.enter 101 xs) W := fun _ _ => by kernel_rfl
theorem ent102 : ∀ (xs : Array Value) (W : World), (callFunc 102 xs).run Try.prog W = .ok (.enter 102 xs) W := fun _ _ => by kernel_rfl
theorem ent103 : ∀ (xs : Array Value) (W : World), (callFunc 103 xs).run Try.prog W = .ok (.enter 103 xs) W := fun _ _ => by kernel_rfl
theorem ent104 : ∀ (xs : Array Value) (W : World), (callFunc 104 xs).run Try.prog W = .ok (.enter 104 xs) W := fun _ _ => by kernel_rfl
theorem ent105 : ∀ (xs : Array Value) (W : World), (callFunc 105 xs).run Try.prog W = .ok (.enter 105 xs) W := fun _ _ => by kernel_rfl
theorem ent106 : ∀ (xs : Array Value) (W : World), (callFunc 106 xs).run Try.prog W = .ok (.enter 106 xs) W := fun _ _ => by kernel_rfl
theorem ent107 : ∀ (xs : Array Value) (W : World), (callFunc 107 xs).run Try.prog W = .ok (.enter 107 xs) W := fun _ _ => by kernel_rfl
theorem ent108 : ∀ (xs : Array Value) (W : World), (callFunc 108 xs).run Try.prog W = .ok (.enter 108 xs) W := fun _ _ => by kernel_rfl
theorem ent109 : ∀ (xs : Array Value) (W : World), (callFunc 109 xs).run Try.prog W = .ok (.enter 109 xs) W := fun _ _ => by kernel_rfl
theorem ent110 : ∀ (xs : Array Value) (W : World), (callFunc 110 xs).run Try.prog W = .ok (.enter 110 xs) W := fun _ _ => by kernel_rfl
theorem ent111 : ∀ (xs : Array Value) (W : World), (callFunc 111 xs).run Try.prog W = .ok (.enter 111 xs) W := fun _ _ => by kernel_rfl
theorem ent112 : ∀ (xs : Array Value) (W : World), (callFunc 112 xs).run Try.prog W = .ok (.enter 112 xs) W := fun _ _ => by kernel_rfl
theorem ent113 : ∀ (xs : Array Value) (W : World), (callFunc 113 xs).run Try.prog W = .ok (.enter 113 xs) W := fun _ _ => by kernel_rfl
theorem ent114 : ∀ (xs : Array Value) (W : World), (callFunc 114 xs).run Try.prog W = .ok (.enter 114 xs) W := fun _ _ => by kernel_rfl
theorem ent115 : ∀ (xs : Array Value) (W : World), (callFunc 115 xs).run Try.prog W = .ok (.enter 115 xs) W := fun _ _ => by kernel_rfl
theorem ent116 : ∀ (xs : Array Value) (W : World), (callFunc 116 xs).run Try.prog W = .ok (.enter 116 xs) W := fun _ _ => by kernel_rfl
theorem ent117 : ∀ (xs : Array Value) (W : World), (callFunc 117 xs).run Try.prog W = .ok (.enter 117 xs) W := fun _ _ => by kernel_rfl
theorem ent118 : ∀ (xs : Array Value) (W : World), (callFunc 118 xs).run Try.prog W = .ok (.enter 118 xs) W := fun _ _ => by kernel_rfl
theorem ent119 : ∀ (xs : Array Value) (W : World), (callFunc 119 xs).run Try.prog W = .ok (.enter 119 xs) W := fun _ _ => by kernel_rfl
theorem ent120 : ∀ (xs : Array Value) (W : World), (callFunc 120 xs).run Try.prog W = .ok (.enter 120 xs) W := fun _ _ => by kernel_rfl
theorem ent121 : ∀ (xs : Array Value) (W : World), (callFunc 121 xs).run Try.prog W = .ok (.enter 121 xs) W := fun _ _ => by kernel_rfl
theorem ent123 : ∀ (xs : Array Value) (W : World), (callFunc 123 xs).run Try.prog W = .ok (.enter 123 xs) W := fun _ _ => by kernel_rfl
theorem ent124 : ∀ (xs : Array Value) (W : World), (callFunc 124 xs).run Try.prog W = .ok (.enter 124 xs) W := fun _ _ => by kernel_rfl
theorem ent125 : ∀ (xs : Array Value) (W : World), (callFunc 125 xs).run Try.prog W = .ok (.enter 125 xs) W := fun _ _ => by kernel_rfl
theorem ent126 : ∀ (xs : Array Value) (W : World), (callFunc 126 xs).run Try.prog W = .ok (.enter 126 xs) W := fun _ _ => by kernel_rfl
theorem ent127 : ∀ (xs : Array Value) (W : World), (callFunc 127 xs).run Try.prog W = .ok (.enter 127 xs) W := fun _ _ => by kernel_rfl
theorem ent128 : ∀ (xs : Array Value) (W : World), (callFunc 128 xs).run Try.prog W = .ok (.enter 128 xs) W := fun _ _ => by kernel_rfl
theorem ent129 : ∀ (xs : Array Value) (W : World), (callFunc 129 xs).run Try.prog W = .ok (.enter 129 xs) W := fun _ _ => by kernel_rfl
theorem ent130 : ∀ (xs : Array Value) (W : World), (callFunc 130 xs).run Try.prog W = .ok (.enter 130 xs) W := fun _ _ => by kernel_rfl
theorem ent131 : ∀ (xs : Array Value) (W : World), (callFunc 131 xs).run Try.prog W = .ok (.enter 131 xs) W := fun _ _ => by kernel_rfl
theorem ent132 : ∀ (xs : Array Value) (W : World), (callFunc 132 xs).run Try.prog W = .ok (.enter 132 xs) W := fun _ _ => by kernel_rfl
theorem ent133 : ∀ (xs : Array Value) (W : World), (callFunc 133 xs).run Try.prog W = .ok (.enter 133 xs) W := fun _ _ => by kernel_rfl
theorem ent134 : ∀ (xs : Array Value) (W : World), (callFunc 134 xs).run Try.prog W = .ok (.enter 134 xs) W := fun _ _ => by kernel_rfl
theorem ent135 : ∀ (xs : Array Value) (W : World), (callFunc 135 xs).run Try.prog W = .ok (.enter 135 xs) W := fun _ _ => by kernel_rfl
theorem ent136 : ∀ (xs : Array Value) (W : World), (callFunc 136 xs).run Try.prog W = .ok (.enter 136 xs) W := fun _ _ => by kernel_rfl
theorem ent137 : ∀ (xs : Array Value) (W : World), (callFunc 137 xs).run Try.prog W = .ok (.enter 137 xs) W := fun _ _ => by kernel_rfl
theorem ent139 : ∀ (xs : Array Value) (W : World), (callFunc 139 xs).run Try.prog W = .ok (.enter 139 xs) W := fun _ _ => by kernel_rfl
theorem ent140 : ∀ (xs : Array Value) (W : World), (callFunc 140 xs).run Try.prog W = .ok (.enter 140 xs) W := fun _ _ => by kernel_rfl
theorem ent141 : ∀ (xs : Array Value) (W : World), (callFunc 141 xs).run Try.prog W = .ok (.enter 141 xs) W := fun _ _ => by kernel_rfl
theorem ent142 : ∀ (xs : Array Value) (W : World), (callFunc 142 xs).run Try.prog W = .ok (.enter 142 xs) W := fun _ _ => by kernel_rfl
theorem ent143 : ∀ (xs : Array Value) (W : World), (callFunc 143 xs).run Try.prog W = .ok (.enter 143 xs) W := fun _ _ => by kernel_rfl
theorem ent144 : ∀ (xs : Array Value) (W : World), (callFunc 144 xs).run Try.prog W = .ok (.enter 144 xs) W := fun _ _ => by kernel_rfl
theorem ent146 : ∀ (xs : Array Value) (W : World), (callFunc 146 xs).run Try.prog W = .ok (.enter 146 xs) W := fun _ _ => by kernel_rfl
theorem ent147 : ∀ (xs : Array Value) (W : World), (callFunc 147 xs).run Try.prog W = .ok (.enter 147 xs) W := fun _ _ => by kernel_rfl
/-- Bytes, as values. -/
def bv (l : List Nat) : List Value := l.map fun (x : Nat) => .int .u8 (x : Int)
def elB (l : List Nat) (i : Nat) : Array Value := #[.int .u8 ((l.getD i 0 : Nat) : Int)]
theorem bv_len (l : List Nat) : (bv l).length = l.length := by simp [bv]
theorem bv_one (l : List Nat) : ∀ u ∈ bv l, u.oneCell' = true := by
  intro u hu; obtain ⟨x, _, rfl⟩ := List.mem_map.1 hu; rfl
theorem bv_app (l m : List Nat) : bv l ++ bv m = bv (l ++ m) := by simp [bv]
theorem Sl.src {w : World} {a : Option Addr} {c : Nat} {l : List Nat} (h : Sl w 1 l.length (.slice a l.length c) (elB l)) : 0 < l.length → ∃ ad, a = some ad ∧ ∀ j u, (bv l)[j]? = some u → w.cell? (ad.add j) = some u := by
  obtain ⟨a', c', e, hm, hE⟩ := h
  injection e with e1 e2 e3
  subst e1
  intro h0
  obtain ⟨b, off, rfl, hb, hc⟩ := hE h0
  refine ⟨_, rfl, fun j u hu => ?_⟩
  have hj : j < l.length := by
    rcases Nat.lt_or_ge j l.length with h | h
    · exact h
    · rw [List.getElem?_eq_none (by rw [bv_len]; exact h)] at hu; cases hu
  have hadd : (⟨b, off, none⟩ : Addr).add j = ⟨b, off + j, none⟩ := by unfold Addr.add; split <;> simp_all
  have := hc j hj 0 (by omega)
  rw [Nat.mul_one, Nat.add_zero] at this
  rw [hadd, this, ← hu]
  simp [elB, bv, List.getD, hj]
theorem room_ok (v : Value) (l : List Nat) (more : Int) (hm0 : 0 ≤ more) (hm1 : more ≤ 1000) (hl : l.length ≤ 1000000) (w : World) (hs : Sl w 1 l.length v (elB l)) :
    Calls Try.prog 146 #[v, .int .i64 more] w (Ret fun v' w' => (∃ ap cp, v' = .slice ap l.length cp) ∧ w'.ownsRow w.heap.size 5 1 v' l.length (bv l) ∧ Below w.heap.size w w') := by
  have hs' := hs
  obtain ⟨a, c, rfl, hm, _⟩ := hs'
  unfold maxLen at hm
  have H := St.init w
  go_enter Try.func146, Try.ntmps146
  go_wp2_with (first | (with_reducible refine wpl rfl (dQ 12 rfl ?_); with_reducible refine (Stp.mk 12 rfl rfl Try.underlying37 info5 rfl rfl rfl (by omega) (by omega) (by omega) (by omega) H ?_); clear H; intro a12 c12 w1 H; simp only [pS]; (try simp only [Int.toNat_natCast, toNat_add8] at H ⊢)) | (with_reducible refine wpl rfl (dQ 15 rfl ?_); with_reducible refine (Stp.cp 15 rfl rfl Try.underlying37 cpsz37 rfl rfl H uP (bv_len l) (hs.grow H.below).src (bv_one l) ?_); clear H; intro w1 H; simp only [pS]))
  go_ret
  have ho := H.getSlc List.mem_cons_self
  have e1 : (bv l).take l.length ++ (List.replicate l.length (Value.int .u8 0)).drop l.length = bv l := by
    rw [List.take_of_length_le (by rw [bv_len]; exact Nat.le_refl _), List.drop_of_length_le (by simp), List.append_nil]
  rw [e1] at ho
  exact ⟨_, rfl, ⟨_, _, rfl⟩, ho, H.below⟩
/-- Is it a width? -/
def wide (n : Int) : Bool := n == 1 || n == 2 || n == 4 || n == 8
end Go.Proofs.Ytjghcmejmdllbaa

namespace Go.Proofs.Ytjghcmejmdllbaa
open Go.ChangeShapes Go.WideShapes Go.ChangeAt Go.RowKit
set_option linter.unusedVariables false
set_option linter.unusedSimpArgs false
/-- The first k bytes of n's form of W bytes. -/
def putB (n : Nat) (W k : Nat) : List Nat := (List.range k).map fun j => n / 256 ^ (W - 1 - j) % 256
theorem putB_len (n W k : Nat) : (putB n W k).length = k := by simp [putB]
theorem putB_succ (n W k : Nat) : putB n W (k + 1) = putB n W k ++ [n / 256 ^ (W - 1 - k) % 256] := by simp [putB, List.range_succ]
theorem byte_at (n m : Nat) : (n : Int) / 2 ^ (8 * m) % 256 = ((n / 256 ^ m % 256 : Nat) : Int) := by
  have h : (256 : Nat) ^ m = 2 ^ (8 * m) := by rw [Nat.pow_mul]
  rw [h, Int.natCast_emod, Int.natCast_ediv, Int.natCast_pow]; rfl
end Go.Proofs.Ytjghcmejmdllbaa

namespace Go.Proofs.Ytjghcmejmdllbaa
open Go.ChangeShapes Go.WideShapes Go.ChangeAt Go.RowKit
set_option linter.unusedVariables false
set_option linter.unusedSimpArgs false
/-- Some bytes' slice, one of its bytes. -/
theorem Sl.byte {w : World} {a : Option Addr} {c : Nat} {l : List Nat} (h : Sl w 1 l.length (.slice a l.length c) (elB l)) {k : Nat} (hk : k < l.length) :
    ∃ b off, a = some ⟨b, off, none⟩ ∧ b < w.heap.size ∧ w.cell? ⟨b, off + k, none⟩ = some (.int .u8 ((l.getD k 0 : Nat) : Int)) := by
  obtain ⟨a', c', e, hm, hE⟩ := h
  injection e with e1 e2 e3
  subst e1
  obtain ⟨b, off, rfl, hb, hc⟩ := hE (by omega)
  refine ⟨b, off, rfl, hb, ?_⟩
  have := hc k hk 0 (by omega)
  rw [Nat.mul_one, Nat.add_zero] at this
  rw [this]; simp [elB]
theorem Sl.len {w : World} {v : Value} {l : List Nat} (h : Sl w 1 l.length v (elB l)) : ∃ a c, v = .slice a l.length c ∧ l.length ≤ 9223372036854775807 := by
  obtain ⟨a, c, rfl, hm, _⟩ := h
  exact ⟨a, c, rfl, by unfold maxLen at hm; omega⟩
theorem take_snoc (l : List Nat) (k : Nat) (h : k < l.length) : l.take (k + 1) = l.take k ++ [l.getD k 0] := by
  rw [List.take_succ_eq_append_getElem h]; simp [List.getD, h]
theorem same_ok (va vb : Value) (la lb : List Nat) (w : World) (ha : Sl w 1 la.length va (elB la)) (hb : Sl w 1 lb.length vb (elB lb)) :
    Calls Try.prog 98 #[va, vb] w (Ret fun v w' => v = .bool (la == lb) ∧ Below w.heap.size w w') := by
  have ha' := ha
  have hb' := hb
  obtain ⟨aa, ca, rfl, hma⟩ := ha'.len
  obtain ⟨ab, cb, rfl, hmb⟩ := hb'.len
  have H := St.init w
  by_cases hlen : la.length = lb.length
  · have h1 : ((la.length : Int) != (lb.length : Int)) = false := by simp [hlen]
    have HL := Lib.hid hlen
    clear hlen
    go_enter Try.func98, Try.ntmps98
    go_wp2_with fail
    go_loopw [5] (fun i wr => ∃ k : Nat, k ≤ la.length ∧ i = .int .i64 k ∧ la.take k = lb.take k ∧ St w.heap.size w wr []) (fun i _ => la.length - (intOf i).toNat)
    case atStart => exact ⟨0, Nat.zero_le _, rfl, rfl, H⟩
    case round =>
      clear H
      obtain ⟨k, hk, rfl, ht, H⟩ := hrel
      have HT := Lib.hid ht
      clear ht
      by_cases hlt : k < la.length
      · have hlt2 : k < lb.length := by have := HL.out; omega
        obtain ⟨b1, o1, rfl, hb1, hc1⟩ := ha.byte hlt
        obtain ⟨b2, o2, rfl, hb2, hc2⟩ := hb.byte hlt2
        have hs1 := take_snoc la k hlt
        have hs2 := take_snoc lb k hlt2
        have HS1 := Lib.hid hs1
        have HS2 := Lib.hid hs2
        clear hs1 hs2
        by_cases he : la.getD k 0 = lb.getD k 0
        · have hne : (((la.getD k 0 : Nat) : Int) != ((lb.getD k 0 : Nat) : Int)) = false := by rw [he]; exact bne_self_eq_false _
          have HE := Lib.hid he
          clear he
          obtain ⟨x, hx⟩ : ∃ x : Int, x = ((la.getD k 0 : Nat) : Int) := ⟨_, rfl⟩
          obtain ⟨y, hy⟩ : ∃ y : Int, y = ((lb.getD k 0 : Nat) : Int) := ⟨_, rfl⟩
          rw [← hx] at hc1 hne
          rw [← hy] at hc2 hne
          clear hx hy
          go_wp2_with fail
          refine rg_begin 9 rfl (S := fun W => St _ _ W _) (by kernel_rfl) H.drew ?_
          replace H := H.drew
          have HS := H
          refine rg_take (i := 0) rfl kR kR kR (Yld.move rfl rfl) HS ?_; simp only [pS, pE]
          refine rg_take (i := 1) rfl kR kR kR (Yld.move rfl rfl) HS ?_; simp only [pS, pE]
          refine rg_take (i := 2) rfl kR kR kR (Yld.o rfl) HS ?_; simp only [pS]
          first | (refine rg_take (i := 3) rfl kR kR kR (Yld.ldo rfl rfl agg5 rfl (by assumption) (by assumption)) HS ?_; simp only [pS]) | (refine rg_take (i := 3) rfl kR kR kR (Yld.ldc rfl rfl agg5 rfl mR cE) HS ?_; simp only [pS])
          refine rg_take (i := 4) rfl kR kR kR (Yld.move rfl rfl) HS ?_; simp only [pS, pE]
          refine rg_take (i := 5) rfl kR kR kR (Yld.move rfl rfl) HS ?_; simp only [pS, pE]
          refine rg_take (i := 6) rfl kR kR kR (Yld.o rfl) HS ?_; simp only [pS]
          first | (refine rg_take (i := 7) rfl kR kR kR (Yld.ldo rfl rfl agg5 rfl (by assumption) (by assumption)) HS ?_; simp only [pS]) | (refine rg_take (i := 7) rfl kR kR kR (Yld.ldc rfl rfl agg5 rfl mR cE) HS ?_; simp only [pS])
          refine rg_take (i := 8) rfl kR kR kR (Yld.o rfl) HS ?_; simp only [pS]
          refine rg_done (by kernel_rfl) ?_
          go_wp2_with fail
          go_roundw
          case rel => exact ⟨k + 1, by omega, by go_num, by rw [HS1.out, HS2.out, HT.out, HE.out], H⟩
          case measure => simp [intOf]; omega
        · have hne : (((la.getD k 0 : Nat) : Int) != ((lb.getD k 0 : Nat) : Int)) = true := bne_iff_ne.2 (by omega)
          have HE := Lib.hid he
          clear he
          obtain ⟨x, hx⟩ : ∃ x : Int, x = ((la.getD k 0 : Nat) : Int) := ⟨_, rfl⟩
          obtain ⟨y, hy⟩ : ∃ y : Int, y = ((lb.getD k 0 : Nat) : Int) := ⟨_, rfl⟩
          rw [← hx] at hc1 hne
          rw [← hy] at hc2 hne
          clear hx hy
          go_wp2_with fail
          refine rg_begin 9 rfl (S := fun W => St _ _ W _) (by kernel_rfl) H.drew ?_
          replace H := H.drew
          have HS := H
          refine rg_take (i := 0) rfl kR kR kR (Yld.move rfl rfl) HS ?_; simp only [pS, pE]
          refine rg_take (i := 1) rfl kR kR kR (Yld.move rfl rfl) HS ?_; simp only [pS, pE]
          refine rg_take (i := 2) rfl kR kR kR (Yld.o rfl) HS ?_; simp only [pS]
          first | (refine rg_take (i := 3) rfl kR kR kR (Yld.ldo rfl rfl agg5 rfl (by assumption) (by assumption)) HS ?_; simp only [pS]) | (refine rg_take (i := 3) rfl kR kR kR (Yld.ldc rfl rfl agg5 rfl mR cE) HS ?_; simp only [pS])
          refine rg_take (i := 4) rfl kR kR kR (Yld.move rfl rfl) HS ?_; simp only [pS, pE]
          refine rg_take (i := 5) rfl kR kR kR (Yld.move rfl rfl) HS ?_; simp only [pS, pE]
          refine rg_take (i := 6) rfl kR kR kR (Yld.o rfl) HS ?_; simp only [pS]
          first | (refine rg_take (i := 7) rfl kR kR kR (Yld.ldo rfl rfl agg5 rfl (by assumption) (by assumption)) HS ?_; simp only [pS]) | (refine rg_take (i := 7) rfl kR kR kR (Yld.ldc rfl rfl agg5 rfl mR cE) HS ?_; simp only [pS])
          refine rg_take (i := 8) rfl kR kR kR (Yld.o rfl) HS ?_; simp only [pS]
          refine rg_done (by kernel_rfl) ?_
          go_wp2_with fail
          go_ret
          refine ⟨_, rfl, ?_, H.below⟩
          have : (la == lb) = false := by
            simp only [beq_eq_false_iff_ne]; rintro rfl; exact HE.out rfl
          rw [this]; rfl
      · obtain rfl : k = la.length := by omega
        go_wp2_with fail
        go_ret
        refine ⟨_, rfl, ?_, H.below⟩
        have h2 := HT.out
        rw [List.take_length, HL.out, List.take_length] at h2
        rw [h2]; simp
  · have h1 : ((la.length : Int) != (lb.length : Int)) = true := by simp; omega
    go_enter Try.func98, Try.ntmps98
    go_wp2_with fail
    go_ret
    refine ⟨_, rfl, ?_, H.below⟩
    have : (la == lb) = false := by
      simp only [beq_eq_false_iff_ne]; rintro rfl; exact hlen rfl
    rw [this]; rfl
theorem putB_cons (n k : Nat) : putB n (k + 1) (k + 1) = n / 256 ^ k % 256 :: putB n k k := by
  unfold putB
  rw [List.range_succ_eq_map]
  simp only [List.map_cons, List.map_map]
  congr 1
  refine List.map_congr_left fun j _ => ?_
  simp only [Function.comp]
  rw [show k + 1 - 1 - (j + 1) = k - 1 - j by omega]
theorem form_step (n W k : Nat) (hk : k < W) : ((bv (List.replicate (W - k) 0 ++ putB n k k)).set (W - 1 - k) (.int .u8 ((n / 256 ^ k % 256 : Nat) : Int))).toArray = (bv (List.replicate (W - (k + 1)) 0 ++ putB n (k + 1) (k + 1))).toArray := by
  rw [putB_cons]
  have e : List.replicate (W - k) 0 = List.replicate (W - (k + 1)) 0 ++ [0] := by
    rw [show W - k = (W - (k + 1)) + 1 by omega, List.replicate_succ']
  rw [e]
  simp only [bv, List.map_append]
  congr 1
  rw [List.append_assoc, List.set_append]
  rw [if_neg (by simp; omega)]
  simp only [List.length_map, List.length_replicate]
  rw [show W - 1 - k - (W - (k + 1)) = 0 by omega]
  simp
theorem wrap_u64_in (x : Int) (h0 : 0 ≤ x) (h1 : x < 18446744073709551616) : IntKind.u64.wrap x = x := by
  simp [IntKind.wrap, IntKind.signed, IntKind.bits]; omega
end Go.Proofs.Ytjghcmejmdllbaa

namespace Go.Proofs.Ytjghcmejmdllbaa
open Go.ChangeShapes Go.WideShapes Go.ChangeAt Go.RowKit
set_option linter.unusedVariables false
set_option linter.unusedSimpArgs false
/-- What lent bytes' row holds. -/
def lent (l : List Nat) : List Nat := l ++ List.replicate 8 165
/-- The row after k bytes are laid. -/
def lentK (l : List Nat) (k : Nat) : List Nat := (lent l).take k ++ List.replicate (l.length + 8 - k) 0
theorem lent_len (l : List Nat) : (lent l).length = l.length + 8 := by simp [lent]
theorem lentK_zero (l : List Nat) : lentK l 0 = List.replicate (l.length + 8) 0 := by simp [lentK]
theorem lentK_full (l : List Nat) : lentK l (l.length + 8) = lent l := by
  unfold lentK
  rw [List.take_of_length_le (by rw [lent_len]; exact Nat.le_refl _)]; simp
theorem lentK_len (l : List Nat) (k : Nat) (hk : k ≤ l.length + 8) : (lentK l k).length = l.length + 8 := by simp [lentK, lent]; omega
theorem lentK_step (l : List Nat) (k x : Nat) (hk : k < l.length + 8) (hx : (lent l).getD k 0 = x) : (bv (lentK l k)).set k (.int .u8 (x : Int)) = bv (lentK l (k + 1)) := by
  have h1 : (lent l).take (k + 1) = (lent l).take k ++ [x] := by
    rw [← hx]; exact take_snoc _ _ (by rw [lent_len]; exact hk)
  have h2 : List.replicate (l.length + 8 - k) 0 = 0 :: List.replicate (l.length + 8 - (k + 1)) 0 := by
    rw [show l.length + 8 - k = (l.length + 8 - (k + 1)) + 1 by omega, List.replicate_succ]
  have h3 : ((lent l).take k).length = k := by rw [List.length_take, lent_len]; omega
  unfold lentK
  rw [h1, h2]
  simp only [bv, List.map_append, List.map_cons, List.map_nil]
  rw [List.set_append, if_neg (by rw [List.length_map, h3]; omega), List.length_map, h3, Nat.sub_self]
  simp
theorem lent_lt (l : List Nat) (k : Nat) (h : k < l.length) : (lent l).getD k 0 = l.getD k 0 := by
  simp only [lent, List.getD, List.getElem?_append_left h]
theorem lent_ge (l : List Nat) (k : Nat) (h : l.length ≤ k) (h2 : k < l.length + 8) : (lent l).getD k 0 = 165 := by
  simp only [lent, List.getD, List.getElem?_append_right h, List.getElem?_replicate]
  rw [if_pos (by omega)]; rfl
end Go.Proofs.Ytjghcmejmdllbaa

namespace Go.Proofs.Ytjghcmejmdllbaa
open Go.ChangeShapes Go.WideShapes Go.ChangeAt Go.RowKit
set_option linter.unusedVariables false
set_option linter.unusedSimpArgs false
/-- The number whose form bytes are. -/
def numB (l : List Nat) : Nat := l.foldl (fun a c => a * 256 + c) 0
theorem numB_snoc (l : List Nat) (c : Nat) : numB (l ++ [c]) = numB l * 256 + c := by simp [numB, List.foldl_append]
theorem foldl_lt (l : List Nat) : ∀ (a m : Nat), a < 256 ^ m → (∀ x ∈ l, x < 256) → l.foldl (fun a c => a * 256 + c) a < 256 ^ (m + l.length) := by
  induction l with
  | nil => intro a m h _; simpa using h
  | cons c l ih =>
    intro a m h hx
    have hc : c < 256 := hx c List.mem_cons_self
    have := ih (a * 256 + c) (m + 1) (by rw [Nat.pow_succ]; omega) (fun x hm => hx x (List.mem_cons_of_mem _ hm))
    simpa [Nat.add_assoc, Nat.add_comm 1] using this
theorem numB_lt (l : List Nat) (h : ∀ x ∈ l, x < 256) : numB l < 256 ^ l.length := by
  have := foldl_lt l 0 0 (by simp) h
  simpa [numB] using this
theorem numB_small (l : List Nat) (h : ∀ x ∈ l, x < 256) (h8 : l.length ≤ 8) : numB l < 18446744073709551616 := by
  refine Nat.lt_of_lt_of_le (numB_lt l h) ?_
  have h1 : (256 : Nat) ^ l.length ≤ 256 ^ 8 := Nat.pow_le_pow_right (by omega) h8
  have h2 : (256 : Nat) ^ 8 = 18446744073709551616 := by decide +kernel
  rw [h2] at h1
  exact h1
theorem or_byte (x c : Nat) (hx : x * 256 + c < 18446744073709551616) (hc : c < 256) : bits .or .u64 ((x : Int) * 256) (c : Int) = ((x * 256 + c : Nat) : Int) := by
  have h1 : x * 256 < 18446744073709551616 := Nat.lt_of_le_of_lt (Nat.le_add_right _ _) hx
  have h2 : c < 18446744073709551616 := Nat.lt_of_le_of_lt (Nat.le_add_left _ _) hx
  have h := bits_or_u64_nat (x * 256) c h1 h2
  rw [show (x * 256 ||| c) = x * 256 + c by
    have := Nat.two_pow_add_eq_or_of_lt (i := 8) (b := c) (by simpa using hc) x
    rw [Nat.mul_comm x 256]; exact this.symm] at h
  exact h
theorem getD_byte {l : List Nat} (h : ∀ x ∈ l, x < 256) (k : Nat) : l.getD k 0 < 256 := by
  by_cases hk : k < l.length
  · have : l.getD k 0 = l[k] := by simp [List.getD, hk]
    rw [this]; exact h _ (List.getElem_mem hk)
  · simp [List.getD, List.getElem?_eq_none (by omega : l.length ≤ k)]
end Go.Proofs.Ytjghcmejmdllbaa

namespace Go.Proofs.Ytjghcmejmdllbaa
open Go.ChangeShapes Go.WideShapes Go.ChangeAt Go.RowKit
section
variable {P : Program} {a : Act} {w : World} {o : Oper} {N : Act → World → Prop}
theorem Stp.bsl0 {B : Nat} {w0 : World} {L : List Res} {ty e : TypeId} {parts : Array (Nat × Operand)} (d : Tmp) (hd : o.dst = some d) (ho : o.op = .buildSlice ty 0 parts)
    (hv : ∀ W : World, (Instr.buildSlice ty 0 (parts.map fun (i, x) => (i, a.eval x))).run P W = .ok (.slice (some ⟨W.heap.size, 0, none⟩) 0 0) (W.alloc (.cells #[] e))) (H : St B w0 w L)
    (h : ∀ ap cp w', St B w0 w' (slc e 1 (.slice ap 0 cp) 0 [] :: L) → N (a.put (some d) (.slice ap 0 cp)) w') : Stp P o a w N := by
  rw [← hd] at h
  refine ⟨w.alloc (.cells #[] e), .inl ⟨_, ?_, h (some ⟨w.heap.size, 0, none⟩) 0 _ ?_⟩⟩
  · unfold execOp; simp only [ho]
    simp [hv]
  · exact H.new ((Below.refl _ _).alloc (Nat.le_refl _) _) (slc_sound (b := 0) ⟨by simp, .inr ⟨w.heap.size, 0, #[], rfl, Nat.zero_le _, heap_alloc_new w _, Nat.le_refl _, Nat.zero_le _, by simp, by simp⟩⟩) (fun g hg => by cases hg; exact Nat.le_refl _)
theorem run_append_none {t ty e : TypeId} {i : TypeInfo} (ht : P.underlying t = some (.slice e)) (hi : P.info? e = some i) (va : Option Addr) (n vc c : Nat) (hnc : n ≤ vc) :
    (Builtin.append_ #[t, t] ty #[.slice va n vc, .slice none 0 c]).run P w = .ok (.slice va n vc) w := by
  cases va <;> simp [Builtin.append_, run_underlying ht, sizeOf, typeInfo, hi, Builtin.lenOf, Builtin.firstCells, storeCells, hnc]
theorem Stp.apps {B : Nat} {w0 : World} {L : List Res} {L' : Value → List Res} {ty e : TypeId} {z : Value} {size bytes : Nat} {s x : Operand} {va A : Option Addr} {vc : Nat} {n : Nat} {xs : List Value} {m c : Nat} {news : List Value} (d : Tmp) (hd : o.dst = some d)
    (ho : o.op = .call { callee := .builtin .append, args := #[s, x], argTypes := #[ty, ty] }) (ht : P.underlying ty = some (.slice e)) (hi : (P.info? e).map (fun i => (i.zero, i.size, i.bytes)) = some (some z, size, bytes)) (hzs : z.cells.size = size) (hsz : 0 < size)
    (hs : a.eval s = .slice va n vc) (hx : a.eval x = .slice A m c) (H : St B w0 w L) (hu : ∀ v', Upd L (slc e size (.slice va n vc) n xs) (slc e size v' (n + m) (xs ++ news)) (L' v')) (hl : news.length = m * size) (hnews : 0 < m → ∃ ad, A = some ad ∧ ∀ j u, news[j]? = some u → w.cell? (ad.add j) = some u) (h1 : ∀ u ∈ news, u.oneCell' = true)
    (h63 : n + m ≤ maxLen) (hbytes : (n + m) * bytes ≤ 140737488355328)
    (h : ∀ ap cp w', St B w0 w' (L' (.slice ap (n + m) cp)) → N (a.put (some d) (.slice ap (n + m) cp)) w') : Stp P o a w N := by
  cases A with
  | some ad =>
    refine Stp.app d hd ho ht hi hzs hsz hs hx H hu hl (fun j u hj => ?_) h1 h63 hbytes h
    rcases Nat.eq_zero_or_pos m with h0 | h0
    · have : news = [] := List.eq_nil_of_length_eq_zero (by rw [hl, h0, Nat.zero_mul])
      rw [this] at hj; simp at hj
    · obtain ⟨ad', e1, e2⟩ := hnews h0
      cases e1
      exact e2 j u hj
  | none =>
    have h0 : m = 0 := by
      rcases Nat.eq_zero_or_pos m with h0 | h0
      · exact h0
      · obtain ⟨_, e1, _⟩ := hnews h0; cases e1
    subst h0
    have : news = [] := List.eq_nil_of_length_eq_zero (by simpa using hl)
    subst this
    rw [← hd] at h
    obtain ⟨i, hi1, hi2, hi3, hi4⟩ := info_parts hi
    have hown := H.getSlc (hu (.slice va n vc)).mem
    have hnc : n ≤ vc := by
      rcases hown.2 with ⟨e1, e2⟩ | ⟨g, cap, cur, e1, hbg, hgc, hnc, hcm, hcs, htake⟩
      · omega
      · cases e1; exact hnc
    have hr := run_append_none (P := P) (w := w) (ty := o.type) ht hi1 va n vc c hnc
    refine ⟨w, .inl ⟨_, ?_, h va vc w ?_⟩⟩
    · unfold execOp
      simp only [ho, resolve, invoke, builtin, Sem.run_bind, Sem.run_pure, Result.andThen_ok, List.map_toArray, List.map_cons, List.map_nil, hs, hx, hr]
      rfl
    · refine H.upd (hu _) ⟨rfl, rfl, rfl, Nat.le_refl _, fun _ _ _ => rfl⟩ (slc_sound (b := B) ?_) (fun g hg => .inl hg)
      simpa using hown
end
end Go.Proofs.Ytjghcmejmdllbaa

namespace Go.Proofs.Ytjghcmejmdllbaa
open Go.ChangeShapes Go.WideShapes Go.ChangeAt Go.RowKit Go.Deep
set_option linter.unusedVariables false
section
variable {H : Type} {enc : TypeId × Value → H} {P : Program}
theorem trodAll_lt {W : World} : ∀ (ts : List TypeId) (vs : List Value) (ds : List (DataW H)) (p : List MemPlace), DataW.TrodAll enc P W 0 (fun _ => true) true ts vs ds p → ∀ x ∈ p, x.block < W.heap.size
  | [], vs, ds, p, h => by
    cases vs with
    | nil => obtain ⟨_, _, rfl⟩ := trodAll_nil h; simp
    | cons v vs => simp [DataW.TrodAll] at h
  | t :: ts, vs, ds, p, h => by
    obtain ⟨v0, vs0, d0, ds0, p0, q0, _, rfl, rfl, h0, r0⟩ := trodAll_cons h
    intro x hx
    rcases List.mem_append.1 hx with hx | hx
    · obtain ⟨m, hm⟩ := h0; exact DataW.trod_lt m _ _ _ hm x hx
    · exact trodAll_lt ts _ _ _ r0 x hx
theorem trodAll_stays (hl : laidOutB P = true) {W W' : World} (hb : Below W.heap.size W W') : ∀ (ts : List TypeId) (vs : List Value) (ds : List (DataW H)) (p : List MemPlace),
    (ts.all fun t => P.readableRec t && decide (t < P.types.size)) = true → DataW.TrodAll enc P W 0 (fun _ => true) true ts vs ds p → DataW.TrodAll enc P W' 0 (fun b => decide (b < W.heap.size)) true ts vs ds p
  | [], vs, ds, p, _, h => by
    cases vs with
    | nil => obtain ⟨_, rfl, rfl⟩ := trodAll_nil h; exact trodAll_mk0
    | cons v vs => simp [DataW.TrodAll] at h
  | t :: ts, vs, ds, p, hr, h => by
    obtain ⟨v0, vs0, d0, ds0, p0, q0, hv, rfl, rfl, h0, r0⟩ := trodAll_cons h
    subst hv
    simp only [List.all_cons, Bool.and_eq_true, decide_eq_true_eq] at hr
    have hlt : ∀ x ∈ p0, x.block < W.heap.size := by obtain ⟨m, hm⟩ := h0; exact DataW.trod_lt m _ _ _ hm
    exact trodAll_cons_mk (Below.trod hl hr.1.1 hr.1.2 h0 hb hlt) (trodAll_stays hl hb ts _ _ _ (by simpa using hr.2) r0)
theorem trodAll_len {W : World} : ∀ (ts : List TypeId) (vs : List Value) (ds : List (DataW H)) (p : List MemPlace), DataW.TrodAll enc P W 0 (fun _ => true) true ts vs ds p → ds.length = ts.length
  | [], vs, ds, p, h => by
    cases vs with
    | nil => obtain ⟨_, rfl, _⟩ := trodAll_nil h; rfl
    | cons v vs => simp [DataW.TrodAll] at h
  | t :: ts, vs, ds, p, h => by
    obtain ⟨v0, vs0, d0, ds0, p0, q0, hv, rfl, rfl, h0, r0⟩ := trodAll_cons h
    simp [trodAll_len ts _ _ _ r0]
end
/-- THE ROW's STEP of a law: its walk returns true, and nothing that was there has turned. -/
theorem law_lifted {H : Type} {enc : TypeId × Value → H} {C : Checked} {os : Os} {f : FuncId} {fn : Func} {s : ChangeSpec} {tb : TypeId} (own : ownKnob C.prog.godebug = none) (started : os.Started) (noInit : C.prog.inits.idxOf? f = none) (hfn : C.prog.funcs[f]? = some fn)
    (hl : laidOutB C.prog = true) (hres : fn.resultTypes = #[tb]) (hb : C.prog.underlying tb = some .bool) (hvars : s.vars = []) (hread : (fn.params.toList.all fun t => C.prog.readableRec t && decide (t < C.prog.types.size)) = true)
    (hs : ∀ ds : List (DataW H), ds.length = fn.params.toList.length → (s.fn H ds).results = [.lit (.bool true)] ∧ (s.fn H ds).args = ds ∧ (s.fn H ds).vars = [])
    (witness : ∃ (w : World) (tape : Tape) (i : Input), w.os = os ∧ (w.forCall tape i).Shaped C.prog ∧ i.vars = [] ∧ Input.okWide C.prog (w.forCall tape i) .any w.heap.size f i ∧
      s.pre6 enc C.prog fn [] false (w.forCall tape i).memory i.args ∧ ({} : Assume).holds C.prog (lone (Frame.enter C.prog f i.args .normal) [] (w.forCall tape i)))
    (walk : ∀ (W : World) (base : Nat) (args : Array Value) (ds : List (DataW H)) (p : List MemPlace), (∀ (j : Nat) t v, fn.params[j]? = some t → args[j]? = some v → Value.okWide C.prog W .any base t v) →
      DataW.TrodAll enc C.prog W 0 (fun _ => true) true fn.params.toList args.toList ds p → Calls C.prog f args W (Ret fun v w' => v = .bool true ∧ Below W.heap.size W w')) :
    ReturnsInHanded {} C os f .any (s.pre6 enc C.prog fn [] false) (s.post enc C.prog fn false true false false) := by
  refine returnsInHanded_of_change (C := C) own started noInit hfn witness ?_
  intro W base args ds gs before hval hW _ _
  have hW' := hW
  obtain ⟨p, q, hA0, hV, rfl, hfz, hnd⟩ := hW
  have hA : DataW.TrodAll enc C.prog W 0 (fun _ => true) true fn.params.toList args.toList ds p := hA0
  have hg : gs = [] ∧ q = [] := by
    rw [hvars] at hV; obtain ⟨rfl, rfl⟩ := trodVars_none hV; exact ⟨rfl, rfl⟩
  obtain ⟨rfl, rfl⟩ := hg
  obtain ⟨e1, e2, e3⟩ := hs ds (trodAll_len _ _ _ _ hA)
  refine (walk W base args ds p hval hA).mono fun e W' hr => ?_
  obtain ⟨v, rfl, rfl, bel⟩ := hr
  refine ⟨_, rfl, _, _, _, [], p, [], hW', ?_, ?_, ?_, bel.frame _, fun h => by cases h⟩
  · simp only [List.append_nil]
    rw [e1, hres]
    exact trodAll_mk1 (shut_bool hb _)
  · simp only [List.append_nil]
    rw [e2]
    exact trodAll_stays hl bel _ _ _ _ hread hA
  · simp only [List.append_nil]
    rw [e3, hvars]
    rfl

/-! ### Arguments, opened -/
section
variable {H : Type} {enc : TypeId × Value → H} {P : Program}
theorem add_none (b off n : Nat) : (⟨b, off, none⟩ : Addr).add n = ⟨b, off + n, none⟩ := by unfold Addr.add; split <;> simp_all
/-- A slice that came in: how many elements, and each one's cells and reading. -/
theorem open_sl {t e : TypeId} {size : Nat} {W : World} {base : Nat} {v : Value} {d : DataW H} {p : List MemPlace} (ht : P.underlying t = some (.slice e)) (hC : P.cellsOf e = size) (hpos : 0 < size)
    (hv : Value.okWide P W .any base t v) (h : DataW.Trod enc P W 0 (fun _ => true) true t v d p) :
    ∃ (n : Nat) (E : Nat → Array Value), Sl W size n v E ∧ ∀ i, i < n → (E i).size = size ∧ ∃ (fuel : Nat) (y : DataW H × List MemPlace), DataW.trod enc P W 0 (fun _ => true) true fuel e (E i).toList = some y := by
  obtain ⟨a0, len0, cap0, rfl⟩ := okWide_slice ht hv
  obtain ⟨fuel, hf⟩ := h
  rcases open_slice ht hf with ⟨hcs, _⟩ | ⟨a, len, cap, m, n, D, Pl, hcs, _, hl, hm, hmm, _, hi⟩
  · simp [Value.cells] at hcs
    obtain ⟨rfl, rfl, rfl⟩ := hcs
    exact ⟨0, fun _ => #[], ⟨_, _, rfl, by simp [maxLen], fun h => absurd h (Nat.lt_irrefl _)⟩, fun i h => absurd h (Nat.not_lt_zero _)⟩
  · simp [Value.cells] at hcs
    obtain ⟨rfl, rfl, rfl⟩ := hcs
    have hlm : len0 ≤ m := by rw [hmm]; simp; omega
    have hex : ∀ i, ∃ cs' : List Value, i < len0 → W.cells? 0 (a.add (i * size)) size = some cs' ∧ DataW.trod enc P W 0 (fun _ => true) true n e cs' = some (D i, Pl i) := fun i => by
      by_cases hlt : i < len0
      · obtain ⟨cs', h1, h2⟩ := hi i (by omega)
        rw [hC] at h1
        exact ⟨cs', fun _ => ⟨h1, h2⟩⟩
      · exact ⟨[], fun hn => absurd hn hlt⟩
    obtain ⟨F, hF⟩ := Classical.axiomOfChoice hex
    refine ⟨len0, fun i => (F i).toArray, ⟨_, _, rfl, by omega, fun h0 => ?_⟩, fun i hlt => ?_⟩
    · obtain ⟨b, off, spot⟩ := a
      obtain ⟨h1, _⟩ := hF 0 h0
      obtain ⟨_, hcl, hat⟩ := World.cells?_some h1
      have h2 := hat 0 hpos
      rw [List.getElem?_eq_getElem (by omega)] at h2
      have hspot : spot = none := by
        have := World.cell?_spot h2
        simpa [Addr.add] using this
      subst hspot
      have hb : b < W.heap.size := by
        have := World.block_lt_of_cell? W _ h2
        simpa [add_none] using this
      refine ⟨b, off, rfl, hb, fun i hlt j hj => ?_⟩
      obtain ⟨h3, _⟩ := hF i hlt
      obtain ⟨_, _, hat'⟩ := World.cells?_some h3
      have := hat' j hj
      rw [add_none, add_none] at this
      rw [this]; simp
    · obtain ⟨h3, h4⟩ := hF i hlt
      obtain ⟨_, hcl, _⟩ := World.cells?_some h3
      exact ⟨by simpa using hcl, n, _, h4⟩
end
end Go.Proofs.Ytjghcmejmdllbaa
