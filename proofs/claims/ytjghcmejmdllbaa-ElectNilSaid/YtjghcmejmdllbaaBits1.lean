/- Contracts of layer 1's functions (bits) and of its references: what each call returns; the bounds on lengths stand in each. -/
import Derived.Test.YtjghcmejmdllbaaBase
import Derived.Test.YtjghcmejmdllbaaRows
namespace Go.Proofs.Ytjghcmejmdllbaa
open Go.ChangeShapes Go.WideShapes Go.ChangeAt Go.RowKit
set_option linter.unusedVariables false
set_option linter.unusedSimpArgs false
theorem agg3 : ∀ W : World, (isAgg 3).run Try.prog W = .ok false W := fun _ => by kernel_rfl
theorem size3 : ∀ W : World, (sizeOf 3).run Try.prog W = .ok 1 W := fun _ => by kernel_rfl
theorem agg4 : ∀ W : World, (isAgg 4).run Try.prog W = .ok false W := fun _ => by kernel_rfl
theorem size4 : ∀ W : World, (sizeOf 4).run Try.prog W = .ok 1 W := fun _ => by kernel_rfl
theorem agg5 : ∀ W : World, (isAgg 5).run Try.prog W = .ok false W := fun _ => by kernel_rfl
theorem size5 : ∀ W : World, (sizeOf 5).run Try.prog W = .ok 1 W := fun _ => by kernel_rfl
theorem agg9 : ∀ W : World, (isAgg 9).run Try.prog W = .ok false W := fun _ => by kernel_rfl
theorem size9 : ∀ W : World, (sizeOf 9).run Try.prog W = .ok 1 W := fun _ => by kernel_rfl
theorem agg22 : ∀ W : World, (isAgg 22).run Try.prog W = .ok false W := fun _ => by kernel_rfl
theorem size22 : ∀ W : World, (sizeOf 22).run Try.prog W = .ok 1 W := fun _ => by kernel_rfl
theorem agg23 : ∀ W : World, (isAgg 23).run Try.prog W = .ok false W := fun _ => by kernel_rfl
theorem size23 : ∀ W : World, (sizeOf 23).run Try.prog W = .ok 1 W := fun _ => by kernel_rfl
theorem agg24 : ∀ W : World, (isAgg 24).run Try.prog W = .ok false W := fun _ => by kernel_rfl
theorem size24 : ∀ W : World, (sizeOf 24).run Try.prog W = .ok 1 W := fun _ => by kernel_rfl
theorem agg26 : ∀ W : World, (isAgg 26).run Try.prog W = .ok true W := fun _ => by kernel_rfl
theorem size26 : ∀ W : World, (sizeOf 26).run Try.prog W = .ok 4 W := fun _ => by kernel_rfl
theorem agg27 : ∀ W : World, (isAgg 27).run Try.prog W = .ok false W := fun _ => by kernel_rfl
theorem size27 : ∀ W : World, (sizeOf 27).run Try.prog W = .ok 1 W := fun _ => by kernel_rfl
theorem agg33 : ∀ W : World, (isAgg 33).run Try.prog W = .ok false W := fun _ => by kernel_rfl
theorem size33 : ∀ W : World, (sizeOf 33).run Try.prog W = .ok 1 W := fun _ => by kernel_rfl
theorem agg34 : ∀ W : World, (isAgg 34).run Try.prog W = .ok false W := fun _ => by kernel_rfl
theorem size34 : ∀ W : World, (sizeOf 34).run Try.prog W = .ok 1 W := fun _ => by kernel_rfl
theorem agg36 : ∀ W : World, (isAgg 36).run Try.prog W = .ok true W := fun _ => by kernel_rfl
theorem size36 : ∀ W : World, (sizeOf 36).run Try.prog W = .ok 2 W := fun _ => by kernel_rfl
theorem agg37 : ∀ W : World, (isAgg 37).run Try.prog W = .ok false W := fun _ => by kernel_rfl
theorem size37 : ∀ W : World, (sizeOf 37).run Try.prog W = .ok 1 W := fun _ => by kernel_rfl
theorem agg39 : ∀ W : World, (isAgg 39).run Try.prog W = .ok true W := fun _ => by kernel_rfl
theorem size39 : ∀ W : World, (sizeOf 39).run Try.prog W = .ok 9 W := fun _ => by kernel_rfl
theorem agg43 : ∀ W : World, (isAgg 43).run Try.prog W = .ok true W := fun _ => by kernel_rfl
theorem size43 : ∀ W : World, (sizeOf 43).run Try.prog W = .ok 10 W := fun _ => by kernel_rfl
theorem agg46 : ∀ W : World, (isAgg 46).run Try.prog W = .ok true W := fun _ => by kernel_rfl
theorem size46 : ∀ W : World, (sizeOf 46).run Try.prog W = .ok 8 W := fun _ => by kernel_rfl
theorem agg63 : ∀ W : World, (isAgg 63).run Try.prog W = .ok false W := fun _ => by kernel_rfl
theorem size63 : ∀ W : World, (sizeOf 63).run Try.prog W = .ok 1 W := fun _ => by kernel_rfl
theorem agg67 : ∀ W : World, (isAgg 67).run Try.prog W = .ok true W := fun _ => by kernel_rfl
theorem size67 : ∀ W : World, (sizeOf 67).run Try.prog W = .ok 3 W := fun _ => by kernel_rfl
theorem agg74 : ∀ W : World, (isAgg 74).run Try.prog W = .ok true W := fun _ => by kernel_rfl
theorem size74 : ∀ W : World, (sizeOf 74).run Try.prog W = .ok 29 W := fun _ => by kernel_rfl
theorem agg76 : ∀ W : World, (isAgg 76).run Try.prog W = .ok true W := fun _ => by kernel_rfl
theorem size76 : ∀ W : World, (sizeOf 76).run Try.prog W = .ok 48 W := fun _ => by kernel_rfl
theorem agg81 : ∀ W : World, (isAgg 81).run Try.prog W = .ok false W := fun _ => by kernel_rfl
theorem size81 : ∀ W : World, (sizeOf 81).run Try.prog W = .ok 1 W := fun _ => by kernel_rfl
theorem agg102 : ∀ W : World, (isAgg 102).run Try.prog W = .ok true W := fun _ => by kernel_rfl
theorem size102 : ∀ W : World, (sizeOf 102).run Try.prog W = .ok 3 W := fun _ => by kernel_rfl
theorem agg103 : ∀ W : World, (isAgg 103).run Try.prog W = .ok false W := fun _ => by kernel_rfl
theorem size103 : ∀ W : World, (sizeOf 103).run Try.prog W = .ok 1 W := fun _ => by kernel_rfl
theorem agg104 : ∀ W : World, (isAgg 104).run Try.prog W = .ok true W := fun _ => by kernel_rfl
theorem size104 : ∀ W : World, (sizeOf 104).run Try.prog W = .ok 3 W := fun _ => by kernel_rfl
theorem agg114 : ∀ W : World, (isAgg 114).run Try.prog W = .ok false W := fun _ => by kernel_rfl
theorem size114 : ∀ W : World, (sizeOf 114).run Try.prog W = .ok 1 W := fun _ => by kernel_rfl
theorem agg125 : ∀ W : World, (isAgg 125).run Try.prog W = .ok false W := fun _ => by kernel_rfl
theorem size125 : ∀ W : World, (sizeOf 125).run Try.prog W = .ok 1 W := fun _ => by kernel_rfl
theorem agg127 : ∀ W : World, (isAgg 127).run Try.prog W = .ok true W := fun _ => by kernel_rfl
theorem size127 : ∀ W : World, (sizeOf 127).run Try.prog W = .ok 2 W := fun _ => by kernel_rfl
theorem agg143 : ∀ W : World, (isAgg 143).run Try.prog W = .ok false W := fun _ => by kernel_rfl
theorem size143 : ∀ W : World, (sizeOf 143).run Try.prog W = .ok 1 W := fun _ => by kernel_rfl
theorem agg154 : ∀ W : World, (isAgg 154).run Try.prog W = .ok false W := fun _ => by kernel_rfl
theorem size154 : ∀ W : World, (sizeOf 154).run Try.prog W = .ok 1 W := fun _ => by kernel_rfl
theorem agg184 : ∀ W : World, (isAgg 184).run Try.prog W = .ok true W := fun _ => by kernel_rfl
theorem size184 : ∀ W : World, (sizeOf 184).run Try.prog W = .ok 0 W := fun _ => by kernel_rfl
theorem agg187 : ∀ W : World, (isAgg 187).run Try.prog W = .ok false W := fun _ => by kernel_rfl
theorem size187 : ∀ W : World, (sizeOf 187).run Try.prog W = .ok 1 W := fun _ => by kernel_rfl
theorem zero26 : ∀ W : World, (zeroValue 26).run Try.prog W = .ok (.agg #[(.int .u64 0), (.slice none 0 0), (.slice none 0 0), (.slice none 0 0)]) W := fun _ => by kernel_rfl
theorem zero36 : ∀ W : World, (zeroValue 36).run Try.prog W = .ok (.agg #[(.int .u16 0), (.int .u32 0)]) W := fun _ => by kernel_rfl
theorem zero37 : ∀ W : World, (zeroValue 37).run Try.prog W = .ok (.slice none 0 0) W := fun _ => by kernel_rfl
theorem zero39 : ∀ W : World, (zeroValue 39).run Try.prog W = .ok (.agg #[(.int .i64 0), (.int .u64 0), (.slice none 0 0), (.slice none 0 0), (.slice none 0 0), (.int .u16 0), (.int .u32 0), (.int .u64 0), (.slice none 0 0)]) W := fun _ => by kernel_rfl
theorem zero43 : ∀ W : World, (zeroValue 43).run Try.prog W = .ok (.agg #[(.int .i64 0), (.int .u16 0), (.int .u32 0), (.int .u64 0), (.int .u64 0), (.slice none 0 0), (.int .u64 0), (.slice none 0 0), (.slice none 0 0), (.slice none 0 0)]) W := fun _ => by kernel_rfl
theorem zero46 : ∀ W : World, (zeroValue 46).run Try.prog W = .ok (.agg #[(.string ByteArray.empty), (.string ByteArray.empty), (.string ByteArray.empty), (.string ByteArray.empty), (.string ByteArray.empty), (.string ByteArray.empty), (.string ByteArray.empty), (.string ByteArray.empty)]) W := fun _ => by kernel_rfl
theorem zero67 : ∀ W : World, (zeroValue 67).run Try.prog W = .ok (.agg #[(.int .u32 0), (.int .u16 0), (.int .u32 0)]) W := fun _ => by kernel_rfl
theorem zero74 : ∀ W : World, (zeroValue 74).run Try.prog W = .ok (.agg #[(.int .i64 0), (.int .u16 0), (.int .u32 0), (.int .u64 0), (.int .u64 0), (.int .u64 0), (.int .i64 0), (.int .u32 0), (.int .u16 0), (.int .u32 0), (.int .u32 0), (.int .u16 0), (.int .u32 0), (.bool false), (.int .i64 0), (.int .u16 0), (.int .u32 0), (.int .u64 0), (.int .u64 0), (.slice none 0 0), (.int .u64 0), (.slice none 0 0), (.slice none 0 0), (.slice none 0 0), (.int .u64 0), (.slice none 0 0), (.slice none 0 0), (.slice none 0 0), (.slice none 0 0)]) W := fun _ => by kernel_rfl
theorem zero102 : ∀ W : World, (zeroValue 102).run Try.prog W = .ok (.agg #[(.pointer none), (.pointer none), (.pointer none)]) W := fun _ => by kernel_rfl
theorem zero104 : ∀ W : World, (zeroValue 104).run Try.prog W = .ok (.agg #[(.pointer none), (.pointer none), (.pointer none)]) W := fun _ => by kernel_rfl
theorem zero127 : ∀ W : World, (zeroValue 127).run Try.prog W = .ok (.agg #[(.int .u64 0), (.int .u64 0)]) W := fun _ => by kernel_rfl
theorem zero184 : ∀ W : World, (zeroValue 184).run Try.prog W = .ok (.agg #[]) W := fun _ => by kernel_rfl
theorem cpsz37 : (Try.prog.info? 5).map (·.size) = some 1 := by kernel_rfl
theorem info5 : (Try.prog.info? 5).map (fun i => (i.zero, i.size, i.bytes)) = some (some (.int .u8 0), 1, 1) := by kernel_rfl
theorem zero5 : ∀ W : World, (zeroValue 5).run Try.prog W = .ok (.int .u8 0) W := fun _ => by kernel_rfl
theorem info23 : (Try.prog.info? 23).map (fun i => (i.zero, i.size, i.bytes)) = some (some (.slice none 0 0), 1, 24) := by kernel_rfl
theorem zero23 : ∀ W : World, (zeroValue 23).run Try.prog W = .ok (.slice none 0 0) W := fun _ => by kernel_rfl
theorem info36 : (Try.prog.info? 36).map (fun i => (i.zero, i.size, i.bytes)) = some (some (.agg #[(.int .u16 0), (.int .u32 0)]), 2, 8) := by kernel_rfl
theorem info39 : (Try.prog.info? 39).map (fun i => (i.zero, i.size, i.bytes)) = some (some (.agg #[(.int .i64 0), (.int .u64 0), (.slice none 0 0), (.slice none 0 0), (.slice none 0 0), (.int .u16 0), (.int .u32 0), (.int .u64 0), (.slice none 0 0)]), 9, 128) := by kernel_rfl
theorem info43 : (Try.prog.info? 43).map (fun i => (i.zero, i.size, i.bytes)) = some (some (.agg #[(.int .i64 0), (.int .u16 0), (.int .u32 0), (.int .u64 0), (.int .u64 0), (.slice none 0 0), (.int .u64 0), (.slice none 0 0), (.slice none 0 0), (.slice none 0 0)]), 10, 136) := by kernel_rfl
theorem info67 : (Try.prog.info? 67).map (fun i => (i.zero, i.size, i.bytes)) = some (some (.agg #[(.int .u32 0), (.int .u16 0), (.int .u32 0)]), 3, 12) := by kernel_rfl
theorem ent12 : ∀ (xs : Array Value) (W : World), (callFunc 12 xs).run Try.prog W = .ok (.enter 12 xs) W := fun _ _ => by kernel_rfl
theorem ent13 : ∀ (xs : Array Value) (W : World), (callFunc 13 xs).run Try.prog W = .ok (.enter 13 xs) W := fun _ _ => by kernel_rfl
theorem ent14 : ∀ (xs : Array Value) (W : World), (callFunc 14 xs).run Try.prog W = .ok (.enter 14 xs) W := fun _ _ => by kernel_rfl
theorem ent15 : ∀ (xs : Array Value) (W : World), (callFunc 15 xs).run Try.prog W = .ok (.enter 15 xs) W := fun _ _ => by kernel_rfl
theorem ent16 : ∀ (xs : Array Value) (W : World), (callFunc 16 xs).run Try.prog W = .ok (.enter 16 xs) W := fun _ _ => by kernel_rfl
theorem ent17 : ∀ (xs : Array Value) (W : World), (callFunc 17 xs).run Try.prog W = .ok (.enter 17 xs) W := fun _ _ => by kernel_rfl
theorem ent18 : ∀ (xs : Array Value) (W : World), (callFunc 18 xs).run Try.prog W = .ok (.enter 18 xs) W := fun _ _ => by kernel_rfl
theorem ent19 : ∀ (xs : Array Value) (W : World), (callFunc 19 xs).run Try.prog W = .ok (.enter 19 xs) W := fun _ _ => by kernel_rfl
theorem ent20 : ∀ (xs : Array Value) (W : World), (callFunc 20 xs).run Try.prog W = .ok (.enter 20 xs) W := fun _ _ => by kernel_rfl
theorem ent21 : ∀ (xs : Array Value) (W : World), (callFunc 21 xs).run Try.prog W = .ok (.enter 21 xs) W := fun _ _ => by kernel_rfl
theorem ent22 : ∀ (xs : Array Value) (W : World), (callFunc 22 xs).run Try.prog W = .ok (.enter 22 xs) W := fun _ _ => by kernel_rfl
theorem ent23 : ∀ (xs : Array Value) (W : World), (callFunc 23 xs).run Try.prog W = .ok (.enter 23 xs) W := fun _ _ => by kernel_rfl
theorem ent24 : ∀ (xs : Array Value) (W : World), (callFunc 24 xs).run Try.prog W = .ok (.enter 24 xs) W := fun _ _ => by kernel_rfl
theorem ent25 : ∀ (xs : Array Value) (W : World), (callFunc 25 xs).run Try.prog W = .ok (.enter 25 xs) W := fun _ _ => by kernel_rfl
theorem ent26 : ∀ (xs : Array Value) (W : World), (callFunc 26 xs).run Try.prog W = .ok (.enter 26 xs) W := fun _ _ => by kernel_rfl
theorem ent27 : ∀ (xs : Array Value) (W : World), (callFunc 27 xs).run Try.prog W = .ok (.enter 27 xs) W := fun _ _ => by kernel_rfl
theorem ent28 : ∀ (xs : Array Value) (W : World), (callFunc 28 xs).run Try.prog W = .ok (.enter 28 xs) W := fun _ _ => by kernel_rfl
theorem ent29 : ∀ (xs : Array Value) (W : World), (callFunc 29 xs).run Try.prog W = .ok (.enter 29 xs) W := fun _ _ => by kernel_rfl
theorem ent30 : ∀ (xs : Array Value) (W : World), (callFunc 30 xs).run Try.prog W = .ok (.enter 30 xs) W := fun _ _ => by kernel_rfl
theorem ent31 : ∀ (xs : Array Value) (W : World), (callFunc 31 xs).run Try.prog W = .ok (.enter 31 xs) W := fun _ _ => by kernel_rfl
theorem ent32 : ∀ (xs : Array Value) (W : World), (callFunc 32 xs).run Try.prog W = .ok (.enter 32 xs) W := fun _ _ => by kernel_rfl
theorem ent33 : ∀ (xs : Array Value) (W : World), (callFunc 33 xs).run Try.prog W = .ok (.enter 33 xs) W := fun _ _ => by kernel_rfl
theorem ent34 : ∀ (xs : Array Value) (W : World), (callFunc 34 xs).run Try.prog W = .ok (.enter 34 xs) W := fun _ _ => by kernel_rfl
theorem ent35 : ∀ (xs : Array Value) (W : World), (callFunc 35 xs).run Try.prog W = .ok (.enter 35 xs) W := fun _ _ => by kernel_rfl
theorem ent36 : ∀ (xs : Array Value) (W : World), (callFunc 36 xs).run Try.prog W = .ok (.enter 36 xs) W := fun _ _ => by kernel_rfl
theorem ent37 : ∀ (xs : Array Value) (W : World), (callFunc 37 xs).run Try.prog W = .ok (.enter 37 xs) W := fun _ _ => by kernel_rfl
theorem ent38 : ∀ (xs : Array Value) (W : World), (callFunc 38 xs).run Try.prog W = .ok (.enter 38 xs) W := fun _ _ => by kernel_rfl
theorem ent39 : ∀ (xs : Array Value) (W : World), (callFunc 39 xs).run Try.prog W = .ok (.enter 39 xs) W := fun _ _ => by kernel_rfl
theorem ent40 : ∀ (xs : Array Value) (W : World), (callFunc 40 xs).run Try.prog W = .ok (.enter 40 xs) W := fun _ _ => by kernel_rfl
theorem ent41 : ∀ (xs : Array Value) (W : World), (callFunc 41 xs).run Try.prog W = .ok (.enter 41 xs) W := fun _ _ => by kernel_rfl
theorem ent42 : ∀ (xs : Array Value) (W : World), (callFunc 42 xs).run Try.prog W = .ok (.enter 42 xs) W := fun _ _ => by kernel_rfl
theorem ent43 : ∀ (xs : Array Value) (W : World), (callFunc 43 xs).run Try.prog W = .ok (.enter 43 xs) W := fun _ _ => by kernel_rfl
theorem ent44 : ∀ (xs : Array Value) (W : World), (callFunc 44 xs).run Try.prog W = .ok (.enter 44 xs) W := fun _ _ => by kernel_rfl
theorem ent45 : ∀ (xs : Array Value) (W : World), (callFunc 45 xs).run Try.prog W = .ok (.enter 45 xs) W := fun _ _ => by kernel_rfl
theorem ent46 : ∀ (xs : Array Value) (W : World), (callFunc 46 xs).run Try.prog W = .ok (.enter 46 xs) W := fun _ _ => by kernel_rfl
theorem ent47 : ∀ (xs : Array Value) (W : World), (callFunc 47 xs).run Try.prog W = .ok (.enter 47 xs) W := fun _ _ => by kernel_rfl
theorem ent48 : ∀ (xs : Array Value) (W : World), (callFunc 48 xs).run Try.prog W = .ok (.enter 48 xs) W := fun _ _ => by kernel_rfl
theorem ent49 : ∀ (xs : Array Value) (W : World), (callFunc 49 xs).run Try.prog W = .ok (.enter 49 xs) W := fun _ _ => by kernel_rfl
theorem ent50 : ∀ (xs : Array Value) (W : World), (callFunc 50 xs).run Try.prog W = .ok (.enter 50 xs) W := fun _ _ => by kernel_rfl
theorem ent51 : ∀ (xs : Array Value) (W : World), (callFunc 51 xs).run Try.prog W = .ok (.enter 51 xs) W := fun _ _ => by kernel_rfl
theorem ent52 : ∀ (xs : Array Value) (W : World), (callFunc 52 xs).run Try.prog W = .ok (.enter 52 xs) W := fun _ _ => by kernel_rfl
theorem ent53 : ∀ (xs : Array Value) (W : World), (callFunc 53 xs).run Try.prog W = .ok (.enter 53 xs) W := fun _ _ => by kernel_rfl
theorem ent54 : ∀ (xs : Array Value) (W : World), (callFunc 54 xs).run Try.prog W = .ok (.enter 54 xs) W := fun _ _ => by kernel_rfl
theorem ent55 : ∀ (xs : Array Value) (W : World), (callFunc 55 xs).run Try.prog W = .ok (.enter 55 xs) W := fun _ _ => by kernel_rfl
theorem ent56 : ∀ (xs : Array Value) (W : World), (callFunc 56 xs).run Try.prog W = .ok (.enter 56 xs) W := fun _ _ => by kernel_rfl
theorem ent57 : ∀ (xs : Array Value) (W : World), (callFunc 57 xs).run Try.prog W = .ok (.enter 57 xs) W := fun _ _ => by kernel_rfl
theorem ent58 : ∀ (xs : Array Value) (W : World), (callFunc 58 xs).run Try.prog W = .ok (.enter 58 xs) W := fun _ _ => by kernel_rfl
theorem ent59 : ∀ (xs : Array Value) (W : World), (callFunc 59 xs).run Try.prog W = .ok (.enter 59 xs) W := fun _ _ => by kernel_rfl
theorem ent60 : ∀ (xs : Array Value) (W : World), (callFunc 60 xs).run Try.prog W = .ok (.enter 60 xs) W := fun _ _ => by kernel_rfl
theorem ent61 : ∀ (xs : Array Value) (W : World), (callFunc 61 xs).run Try.prog W = .ok (.enter 61 xs) W := fun _ _ => by kernel_rfl
theorem ent62 : ∀ (xs : Array Value) (W : World), (callFunc 62 xs).run Try.prog W = .ok (.enter 62 xs) W := fun _ _ => by kernel_rfl
theorem ent63 : ∀ (xs : Array Value) (W : World), (callFunc 63 xs).run Try.prog W = .ok (.enter 63 xs) W := fun _ _ => by kernel_rfl
theorem ent64 : ∀ (xs : Array Value) (W : World), (callFunc 64 xs).run Try.prog W = .ok (.enter 64 xs) W := fun _ _ => by kernel_rfl
theorem ent65 : ∀ (xs : Array Value) (W : World), (callFunc 65 xs).run Try.prog W = .ok (.enter 65 xs) W := fun _ _ => by kernel_rfl
theorem ent66 : ∀ (xs : Array Value) (W : World), (callFunc 66 xs).run Try.prog W = .ok (.enter 66 xs) W := fun _ _ => by kernel_rfl
theorem ent67 : ∀ (xs : Array Value) (W : World), (callFunc 67 xs).run Try.prog W = .ok (.enter 67 xs) W := fun _ _ => by kernel_rfl
theorem ent68 : ∀ (xs : Array Value) (W : World), (callFunc 68 xs).run Try.prog W = .ok (.enter 68 xs) W := fun _ _ => by kernel_rfl
theorem ent69 : ∀ (xs : Array Value) (W : World), (callFunc 69 xs).run Try.prog W = .ok (.enter 69 xs) W := fun _ _ => by kernel_rfl
theorem ent70 : ∀ (xs : Array Value) (W : World), (callFunc 70 xs).run Try.prog W = .ok (.enter 70 xs) W := fun _ _ => by kernel_rfl
theorem ent71 : ∀ (xs : Array Value) (W : World), (callFunc 71 xs).run Try.prog W = .ok (.enter 71 xs) W := fun _ _ => by kernel_rfl
theorem ent72 : ∀ (xs : Array Value) (W : World), (callFunc 72 xs).run Try.prog W = .ok (.enter 72 xs) W := fun _ _ => by kernel_rfl
theorem ent73 : ∀ (xs : Array Value) (W : World), (callFunc 73 xs).run Try.prog W = .ok (.enter 73 xs) W := fun _ _ => by kernel_rfl
theorem ent74 : ∀ (xs : Array Value) (W : World), (callFunc 74 xs).run Try.prog W = .ok (.enter 74 xs) W := fun _ _ => by kernel_rfl
theorem ent75 : ∀ (xs : Array Value) (W : World), (callFunc 75 xs).run Try.prog W = .ok (.enter 75 xs) W := fun _ _ => by kernel_rfl
theorem ent76 : ∀ (xs : Array Value) (W : World), (callFunc 76 xs).run Try.prog W = .ok (.enter 76 xs) W := fun _ _ => by kernel_rfl
theorem ent77 : ∀ (xs : Array Value) (W : World), (callFunc 77 xs).run Try.prog W = .ok (.enter 77 xs) W := fun _ _ => by kernel_rfl
theorem ent78 : ∀ (xs : Array Value) (W : World), (callFunc 78 xs).run Try.prog W = .ok (.enter 78 xs) W := fun _ _ => by kernel_rfl
theorem ent79 : ∀ (xs : Array Value) (W : World), (callFunc 79 xs).run Try.prog W = .ok (.enter 79 xs) W := fun _ _ => by kernel_rfl
theorem ent80 : ∀ (xs : Array Value) (W : World), (callFunc 80 xs).run Try.prog W = .ok (.enter 80 xs) W := fun _ _ => by kernel_rfl
theorem ent81 : ∀ (xs : Array Value) (W : World), (callFunc 81 xs).run Try.prog W = .ok (.enter 81 xs) W := fun _ _ => by kernel_rfl
theorem ent82 : ∀ (xs : Array Value) (W : World), (callFunc 82 xs).run Try.prog W = .ok (.enter 82 xs) W := fun _ _ => by kernel_rfl
theorem ent83 : ∀ (xs : Array Value) (W : World), (callFunc 83 xs).run Try.prog W = .ok (.enter 83 xs) W := fun _ _ => by kernel_rfl
theorem ent84 : ∀ (xs : Array Value) (W : World), (callFunc 84 xs).run Try.prog W = .ok (.enter 84 xs) W := fun _ _ => by kernel_rfl
theorem ent85 : ∀ (xs : Array Value) (W : World), (callFunc 85 xs).run Try.prog W = .ok (.enter 85 xs) W := fun _ _ => by kernel_rfl
theorem ent86 : ∀ (xs : Array Value) (W : World), (callFunc 86 xs).run Try.prog W = .ok (.enter 86 xs) W := fun _ _ => by kernel_rfl
theorem ent87 : ∀ (xs : Array Value) (W : World), (callFunc 87 xs).run Try.prog W = .ok (.enter 87 xs) W := fun _ _ => by kernel_rfl
theorem ent88 : ∀ (xs : Array Value) (W : World), (callFunc 88 xs).run Try.prog W = .ok (.enter 88 xs) W := fun _ _ => by kernel_rfl
theorem ent89 : ∀ (xs : Array Value) (W : World), (callFunc 89 xs).run Try.prog W = .ok (.enter 89 xs) W := fun _ _ => by kernel_rfl
theorem ent90 : ∀ (xs : Array Value) (W : World), (callFunc 90 xs).run Try.prog W = .ok (.enter 90 xs) W := fun _ _ => by kernel_rfl
theorem ent91 : ∀ (xs : Array Value) (W : World), (callFunc 91 xs).run Try.prog W = .ok (.enter 91 xs) W := fun _ _ => by kernel_rfl
theorem ent92 : ∀ (xs : Array Value) (W : World), (callFunc 92 xs).run Try.prog W = .ok (.enter 92 xs) W := fun _ _ => by kernel_rfl
theorem ent93 : ∀ (xs : Array Value) (W : World), (callFunc 93 xs).run Try.prog W = .ok (.enter 93 xs) W := fun _ _ => by kernel_rfl
theorem ent94 : ∀ (xs : Array Value) (W : World), (callFunc 94 xs).run Try.prog W = .ok (.enter 94 xs) W := fun _ _ => by kernel_rfl
theorem ent95 : ∀ (xs : Array Value) (W : World), (callFunc 95 xs).run Try.prog W = .ok (.enter 95 xs) W := fun _ _ => by kernel_rfl
theorem ent96 : ∀ (xs : Array Value) (W : World), (callFunc 96 xs).run Try.prog W = .ok (.enter 96 xs) W := fun _ _ => by kernel_rfl
theorem ent97 : ∀ (xs : Array Value) (W : World), (callFunc 97 xs).run Try.prog W = .ok (.enter 97 xs) W := fun _ _ => by kernel_rfl
theorem ent98 : ∀ (xs : Array Value) (W : World), (callFunc 98 xs).run Try.prog W = .ok (.enter 98 xs) W := fun _ _ => by kernel_rfl
theorem ent99 : ∀ (xs : Array Value) (W : World), (callFunc 99 xs).run Try.prog W = .ok (.enter 99 xs) W := fun _ _ => by kernel_rfl
theorem ent100 : ∀ (xs : Array Value) (W : World), (callFunc 100 xs).run Try.prog W = .ok (.enter 100 xs) W := fun _ _ => by kernel_rfl
theorem ent101 : ∀ (xs : Array Value) (W : World), (callFunc 101 xs).run Try.prog W = .ok (.enter 101 xs) W := fun _ _ => by kernel_rfl
theorem ent102 : ∀ (xs : Array Value) (W : World), (callFunc 102 xs).run Try.prog W = .ok (.enter 102 xs) W := fun _ _ => by kernel_rfl
theorem ent103 : ∀ (xs : Array Value) (W : World), (callFunc 103 xs).run Try.prog W = .ok (.enter 103 xs) W := fun _ _ => by kernel_rfl
theorem ent104 : ∀ (xs : Array Value) (W : World), (callFunc 104 xs).run Try.prog W = .ok (.enter 104 xs) W := fun _ _ => by kernel_rfl
theorem ent105 : ∀ (xs : Array Value) (W : World), (callFunc 105 xs).run Try.prog W = .ok (.enter 105 xs) W := fun _ _ => by kernel_rfl
theorem ent106 : ∀ (xs : Array Value) (W : World), (callFunc 106 xs).run Try.prog W = .ok (.enter 106 xs) W := fun _ _ => by kernel_rfl
theorem ent107 : ∀ (xs : Array Value) (W : World), (callFunc 107 xs).run Try.prog W = .ok (.enter 107 xs) W := fun _ _ => by kernel_rfl
theorem ent108 : ∀ (xs : Array Value) (W : World), (callFunc 108 xs).run Try.prog W = .ok (.enter 108 xs) W := fun _ _ => by kernel_rfl
theorem ent109 : ∀ (xs : Array Value) (W : World), (callFunc 109 xs).run Try.prog W = .ok (.enter 109 xs) W := fun _ _ => by kernel_rfl
theorem ent110 : ∀ (xs : Array Value) (W : World), (callFunc 110 xs).run Try.prog W = .ok (.enter 110 xs) W := fun _ _ => by kernel_rfl
theorem ent111 : ∀ (xs : Array Value) (W : World), (callFunc 111 xs).run Try.prog W = .ok (.enter 111 xs) W := fun _ _ => by kernel_rfl
theorem ent112 : ∀ (xs : Array Value) (W : World), (callFunc 112 xs).run Try.prog W = .ok (.enter 112 xs) W := fun _ _ => by kernel_rfl
theorem ent113 : ∀ (xs : Array Value) (W : World), (callFunc 113 xs).run Try.prog W = .ok (.enter 113 xs) W := fun _ _ => by kernel_rfl
theorem ent114 : ∀ (xs : Array Value) (W : World), (callFunc 114 xs).run Try.prog W = .ok (.enter 114 xs) W := fun _ _ => by kernel_rfl
theorem ent115 : ∀ (xs : Array Value) (W : World), (callFunc 115 xs).run Try.prog W = .ok (.enter 115 xs) W := fun _ _ => by kernel_rfl
theorem ent116 : ∀ (xs : Array Value) (W : World), (callFunc 116 xs).run Try.prog W = .ok (.enter 116 xs) W := fun _ _ => by kernel_rfl
theorem ent117 : ∀ (xs : Array Value) (W : World), (callFunc 117 xs).run Try.prog W = .ok (.enter 117 xs) W := fun _ _ => by kernel_rfl
theorem ent118 : ∀ (xs : Array Value) (W : World), (callFunc 118 xs).run Try.prog W = .ok (.enter 118 xs) W := fun _ _ => by kernel_rfl
theorem ent119 : ∀ (xs : Array Value) (W : World), (callFunc 119 xs).run Try.prog W = .ok (.enter 119 xs) W := fun _ _ => by kernel_rfl
theorem ent120 : ∀ (xs : Array Value) (W : World), (callFunc 120 xs).run Try.prog W = .ok (.enter 120 xs) W := fun _ _ => by kernel_rfl
theorem ent121 : ∀ (xs : Array Value) (W : World), (callFunc 121 xs).run Try.prog W = .ok (.enter 121 xs) W := fun _ _ => by kernel_rfl
theorem ent123 : ∀ (xs : Array Value) (W : World), (callFunc 123 xs).run Try.prog W = .ok (.enter 123 xs) W := fun _ _ => by kernel_rfl
theorem ent124 : ∀ (xs : Array Value) (W : World), (callFunc 124 xs).run Try.prog W = .ok (.enter 124 xs) W := fun _ _ => by kernel_rfl
theorem ent125 : ∀ (xs : Array Value) (W : World), (callFunc 125 xs).run Try.prog W = .ok (.enter 125 xs) W := fun _ _ => by kernel_rfl
theorem ent126 : ∀ (xs : Array Value) (W : World), (callFunc 126 xs).run Try.prog W = .ok (.enter 126 xs) W := fun _ _ => by kernel_rfl
theorem ent127 : ∀ (xs : Array Value) (W : World), (callFunc 127 xs).run Try.prog W = .ok (.enter 127 xs) W := fun _ _ => by kernel_rfl
theorem ent128 : ∀ (xs : Array Value) (W : World), (callFunc 128 xs).run Try.prog W = .ok (.enter 128 xs) W := fun _ _ => by kernel_rfl
theorem ent129 : ∀ (xs : Array Value) (W : World), (callFunc 129 xs).run Try.prog W = .ok (.enter 129 xs) W := fun _ _ => by kernel_rfl
theorem ent130 : ∀ (xs : Array Value) (W : World), (callFunc 130 xs).run Try.prog W = .ok (.enter 130 xs) W := fun _ _ => by kernel_rfl
theorem ent131 : ∀ (xs : Array Value) (W : World), (callFunc 131 xs).run Try.prog W = .ok (.enter 131 xs) W := fun _ _ => by kernel_rfl
theorem ent132 : ∀ (xs : Array Value) (W : World), (callFunc 132 xs).run Try.prog W = .ok (.enter 132 xs) W := fun _ _ => by kernel_rfl
theorem ent133 : ∀ (xs : Array Value) (W : World), (callFunc 133 xs).run Try.prog W = .ok (.enter 133 xs) W := fun _ _ => by kernel_rfl
theorem ent134 : ∀ (xs : Array Value) (W : World), (callFunc 134 xs).run Try.prog W = .ok (.enter 134 xs) W := fun _ _ => by kernel_rfl
theorem ent135 : ∀ (xs : Array Value) (W : World), (callFunc 135 xs).run Try.prog W = .ok (.enter 135 xs) W := fun _ _ => by kernel_rfl
theorem ent136 : ∀ (xs : Array Value) (W : World), (callFunc 136 xs).run Try.prog W = .ok (.enter 136 xs) W := fun _ _ => by kernel_rfl
theorem ent137 : ∀ (xs : Array Value) (W : World), (callFunc 137 xs).run Try.prog W = .ok (.enter 137 xs) W := fun _ _ => by kernel_rfl
theorem ent139 : ∀ (xs : Array Value) (W : World), (callFunc 139 xs).run Try.prog W = .ok (.enter 139 xs) W := fun _ _ => by kernel_rfl
theorem ent140 : ∀ (xs : Array Value) (W : World), (callFunc 140 xs).run Try.prog W = .ok (.enter 140 xs) W := fun _ _ => by kernel_rfl
theorem ent141 : ∀ (xs : Array Value) (W : World), (callFunc 141 xs).run Try.prog W = .ok (.enter 141 xs) W := fun _ _ => by kernel_rfl
theorem ent142 : ∀ (xs : Array Value) (W : World), (callFunc 142 xs).run Try.prog W = .ok (.enter 142 xs) W := fun _ _ => by kernel_rfl
theorem ent143 : ∀ (xs : Array Value) (W : World), (callFunc 143 xs).run Try.prog W = .ok (.enter 143 xs) W := fun _ _ => by kernel_rfl
theorem ent144 : ∀ (xs : Array Value) (W : World), (callFunc 144 xs).run Try.prog W = .ok (.enter 144 xs) W := fun _ _ => by kernel_rfl
theorem ent146 : ∀ (xs : Array Value) (W : World), (callFunc 146 xs).run Try.prog W = .ok (.enter 146 xs) W := fun _ _ => by kernel_rfl
theorem ent147 : ∀ (xs : Array Value) (W : World), (callFunc 147 xs).run Try.prog W = .ok (.enter 147 xs) W := fun _ _ => by kernel_rfl
/-- Bytes, as values. -/
def bv (l : List Nat) : List Value := l.map fun (x : Nat) => .int .u8 (x : Int)
def elB (l : List Nat) (i : Nat) : Array Value := #[.int .u8 ((l.getD i 0 : Nat) : Int)]
theorem bv_len (l : List Nat) : (bv l).length = l.length := by simp [bv]
theorem bv_one (l : List Nat) : ∀ u ∈ bv l, u.oneCell' = true := by
  intro u hu; obtain ⟨x, _, rfl⟩ := List.mem_map.1 hu; rfl
theorem bv_app (l m : List Nat) : bv l ++ bv m = bv (l ++ m) := by simp [bv]
theorem Sl.src {w : World} {a : Option Addr} {c : Nat} {l : List Nat} (h : Sl w 1 l.length (.slice a l.length c) (elB l)) : 0 < l.length → ∃ ad, a = some ad ∧ ∀ j u, (bv l)[j]? = some u → w.cell? (ad.add j) = some u := by
  obtain ⟨a', c', e, hm, hE⟩ := h
  injection e with e1 e2 e3
  subst e1
  intro h0
  obtain ⟨b, off, rfl, hb, hc⟩ := hE h0
  refine ⟨_, rfl, fun j u hu => ?_⟩
  have hj : j < l.length := by
    rcases Nat.lt_or_ge j l.length with h | h
    · exact h
    · rw [List.getElem?_eq_none (by rw [bv_len]; exact h)] at hu; cases hu
  have hadd : (⟨b, off, none⟩ : Addr).add j = ⟨b, off + j, none⟩ := by unfold Addr.add; split <;> simp_all
  have := hc j hj 0 (by omega)
  rw [Nat.mul_one, Nat.add_zero] at this
  rw [hadd, this, ← hu]
  simp [elB, bv, List.getD, hj]
theorem room_ok (v : Value) (l : List Nat) (more : Int) (hm0 : 0 ≤ more) (hm1 : more ≤ 1000) (hl : l.length ≤ 1000000) (w : World) (hs : Sl w 1 l.length v (elB l)) :
    Calls Try.prog 146 #[v, .int .i64 more] w (Ret fun v' w' => (∃ ap cp, v' = .slice ap l.length cp) ∧ w'.ownsRow w.heap.size 5 1 v' l.length (bv l) ∧ Below w.heap.size w w') := by
  have hs' := hs
  obtain ⟨a, c, rfl, hm, _⟩ := hs'
  unfold maxLen at hm
  have H := St.init w
  go_enter Try.func146, Try.ntmps146
  go_wp2_with (first | (with_reducible refine wpl rfl (Stp.mk 12 rfl rfl Try.underlying37 info5 rfl rfl rfl (by omega) (by omega) (by omega) (by omega) H ?_); clear H; intro a12 c12 w1 H; simp only [pS]; (try simp only [Int.toNat_natCast, toNat_add8] at H ⊢)) | (with_reducible refine wpl rfl (Stp.cp 15 rfl rfl Try.underlying37 cpsz37 rfl rfl H uP (bv_len l) (hs.grow H.below).src (bv_one l) ?_); clear H; intro w1 H; simp only [pS]))
  go_ret
  have ho := H.getSlc List.mem_cons_self
  have e1 : (bv l).take l.length ++ (List.replicate l.length (Value.int .u8 0)).drop l.length = bv l := by
    rw [List.take_of_length_le (by rw [bv_len]; exact Nat.le_refl _), List.drop_of_length_le (by simp), List.append_nil]
  rw [e1] at ho
  exact ⟨_, rfl, ⟨_, _, rfl⟩, ho, H.below⟩
/-- Is it a width? -/
def wide (n : Int) : Bool := n == 1 || n == 2 || n == 4 || n == 8
end Go.Proofs.Ytjghcmejmdllbaa
