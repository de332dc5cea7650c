/- Contracts of layer 1's functions (bits) and of its references: what each call returns; the bounds on lengths stand in each. Contracts of layer 1's Put and its references; the bounds on lengths stand in each. Contracts of layer 1's references Form, Same, Width, Lent, Kept; the bounds on lengths stand in each. Contracts of layer 1's references Lent and Kept; the bounds on lengths stand in each. Contracts of layer 1's Get and of its reference Number; the bounds on lengths stand in each. More rules of the small logic of owned memory: an empty literal as a slice of the call's own, and append of any slice. No condition. The frame round a law: what a walk that returns true and writes nothing that was there gives of its row; the readings of arguments, opened. No condition. Bytes that came in, and bytes of the call's own, as one reads them; the bounds on lengths stand in each. -/
import Derived.Test.YtbepaafgcbgmfaaFz1
import Derived.Test.YtbepaafgcbgmfaaRows
import Derived.Laws.BitsLemmas
import Derived.Laws.Bits64b
import Derived.ShutString
import Derived.ChangeOld
import Derived.Deep.Slices
import Derived.Deep.Fields
namespace Go.Proofs.Ytbepaafgcbgmfaa
open Go.ChangeShapes Go.WideShapes Go.ChangeAt Go.RowKit
set_option linter.unusedVariables false
set_option linter.unusedSimpArgs false
theorem agg3 : ∀ W : World, (isAgg 3).run Try.prog W = .ok false W := fun _ => by kernel_rfl
theorem size3 : ∀ W : World, (sizeOf 3).run Try.prog W = .ok 1 W := fun _ => by kernel_rfl
theorem agg4 : ∀ W : World, (isAgg 4).run Try.prog W = .ok false W := fun _ => by kernel_rfl
theorem size4 : ∀ W : World, (sizeOf 4).run Try.prog W = .ok 1 W := fun _ => by kernel_rfl
theorem agg22 : ∀ W : World, (isAgg 22).run Try.prog W = .ok false W := fun _ => by kernel_rfl
theorem size22 : ∀ W : World, (sizeOf 22).run Try.prog W = .ok 1 W := fun _ => by kernel_rfl
theorem agg24 : ∀ W : World, (isAgg 24).run Try.prog W = .ok false W := fun _ => by kernel_rfl
theorem size24 : ∀ W : World, (sizeOf 24).run Try.prog W = .ok 1 W := fun _ => by kernel_rfl
theorem agg25 : ∀ W : World, (isAgg 25).run Try.prog W = .ok false W := fun _ => by kernel_rfl
theorem size25 : ∀ W : World, (sizeOf 25).run Try.prog W = .ok 1 W := fun _ => by kernel_rfl
theorem agg27 : ∀ W : World, (isAgg 27).run Try.prog W = .ok true W := fun _ => by kernel_rfl
theorem size27 : ∀ W : World, (sizeOf 27).run Try.prog W = .ok 2 W := fun _ => by kernel_rfl
theorem agg29 : ∀ W : World, (isAgg 29).run Try.prog W = .ok true W := fun _ => by kernel_rfl
theorem size29 : ∀ W : World, (sizeOf 29).run Try.prog W = .ok 3 W := fun _ => by kernel_rfl
theorem agg30 : ∀ W : World, (isAgg 30).run Try.prog W = .ok false W := fun _ => by kernel_rfl
theorem size30 : ∀ W : World, (sizeOf 30).run Try.prog W = .ok 1 W := fun _ => by kernel_rfl
theorem agg37 : ∀ W : World, (isAgg 37).run Try.prog W = .ok false W := fun _ => by kernel_rfl
theorem size37 : ∀ W : World, (sizeOf 37).run Try.prog W = .ok 1 W := fun _ => by kernel_rfl
theorem agg38 : ∀ W : World, (isAgg 38).run Try.prog W = .ok false W := fun _ => by kernel_rfl
theorem size38 : ∀ W : World, (sizeOf 38).run Try.prog W = .ok 1 W := fun _ => by kernel_rfl
theorem agg39 : ∀ W : World, (isAgg 39).run Try.prog W = .ok false W := fun _ => by kernel_rfl
theorem size39 : ∀ W : World, (sizeOf 39).run Try.prog W = .ok 1 W := fun _ => by kernel_rfl
theorem agg41 : ∀ W : World, (isAgg 41).run Try.prog W = .ok true W := fun _ => by kernel_rfl
theorem size41 : ∀ W : World, (sizeOf 41).run Try.prog W = .ok 4 W := fun _ => by kernel_rfl
theorem agg43 : ∀ W : World, (isAgg 43).run Try.prog W = .ok true W := fun _ => by kernel_rfl
theorem size43 : ∀ W : World, (sizeOf 43).run Try.prog W = .ok 11 W := fun _ => by kernel_rfl
theorem agg52 : ∀ W : World, (isAgg 52).run Try.prog W = .ok true W := fun _ => by kernel_rfl
theorem size52 : ∀ W : World, (sizeOf 52).run Try.prog W = .ok 6 W := fun _ => by kernel_rfl
theorem agg60 : ∀ W : World, (isAgg 60).run Try.prog W = .ok false W := fun _ => by kernel_rfl
theorem size60 : ∀ W : World, (sizeOf 60).run Try.prog W = .ok 1 W := fun _ => by kernel_rfl
theorem agg62 : ∀ W : World, (isAgg 62).run Try.prog W = .ok true W := fun _ => by kernel_rfl
theorem size62 : ∀ W : World, (sizeOf 62).run Try.prog W = .ok 9 W := fun _ => by kernel_rfl
theorem agg64 : ∀ W : World, (isAgg 64).run Try.prog W = .ok true W := fun _ => by kernel_rfl
theorem size64 : ∀ W : World, (sizeOf 64).run Try.prog W = .ok 6 W := fun _ => by kernel_rfl
theorem agg67 : ∀ W : World, (isAgg 67).run Try.prog W = .ok false W := fun _ => by kernel_rfl
theorem size67 : ∀ W : World, (sizeOf 67).run Try.prog W = .ok 1 W := fun _ => by kernel_rfl
theorem agg68 : ∀ W : World, (isAgg 68).run Try.prog W = .ok false W := fun _ => by kernel_rfl
theorem size68 : ∀ W : World, (sizeOf 68).run Try.prog W = .ok 1 W := fun _ => by kernel_rfl
theorem agg69 : ∀ W : World, (isAgg 69).run Try.prog W = .ok false W := fun _ => by kernel_rfl
theorem size69 : ∀ W : World, (sizeOf 69).run Try.prog W = .ok 1 W := fun _ => by kernel_rfl
theorem agg70 : ∀ W : World, (isAgg 70).run Try.prog W = .ok false W := fun _ => by kernel_rfl
theorem size70 : ∀ W : World, (sizeOf 70).run Try.prog W = .ok 1 W := fun _ => by kernel_rfl
theorem agg75 : ∀ W : World, (isAgg 75).run Try.prog W = .ok true W := fun _ => by kernel_rfl
theorem size75 : ∀ W : World, (sizeOf 75).run Try.prog W = .ok 4 W := fun _ => by kernel_rfl
theorem agg78 : ∀ W : World, (isAgg 78).run Try.prog W = .ok true W := fun _ => by kernel_rfl
theorem size78 : ∀ W : World, (sizeOf 78).run Try.prog W = .ok 9 W := fun _ => by kernel_rfl
theorem agg81 : ∀ W : World, (isAgg 81).run Try.prog W = .ok true W := fun _ => by kernel_rfl
theorem size81 : ∀ W : World, (sizeOf 81).run Try.prog W = .ok 0 W := fun _ => by kernel_rfl
theorem agg88 : ∀ W : World, (isAgg 88).run Try.prog W = .ok false W := fun _ => by kernel_rfl
theorem size88 : ∀ W : World, (sizeOf 88).run Try.prog W = .ok 1 W := fun _ => by kernel_rfl
theorem agg112 : ∀ W : World, (isAgg 112).run Try.prog W = .ok false W := fun _ => by kernel_rfl
theorem size112 : ∀ W : World, (sizeOf 112).run Try.prog W = .ok 1 W := fun _ => by kernel_rfl
theorem zero27 : ∀ W : World, (zeroValue 27).run Try.prog W = .ok (.agg #[(.int .u16 0), (.int .u32 0)]) W := fun _ => by kernel_rfl
theorem zero29 : ∀ W : World, (zeroValue 29).run Try.prog W = .ok (.agg #[(.int .u16 0), (.int .u32 0), (.slice none 0 0)]) W := fun _ => by kernel_rfl
theorem zero43 : ∀ W : World, (zeroValue 43).run Try.prog W = .ok (.agg #[(.int .u16 0), (.int .u32 0), (.int .u64 0), (.slice none 0 0), (.slice none 0 0), (.slice none 0 0), (.slice none 0 0), (.slice none 0 0), (.bool false), (.bool false), (.int .u64 0)]) W := fun _ => by kernel_rfl
theorem zero52 : ∀ W : World, (zeroValue 52).run Try.prog W = .ok (.agg #[(.int .i64 0), (.int .i64 0), (.int .i64 0), (.int .i64 0), (.int .i64 0), (.int .i64 0)]) W := fun _ => by kernel_rfl
theorem zero62 : ∀ W : World, (zeroValue 62).run Try.prog W = .ok (.agg #[(.int .i64 0), (.int .u64 0), (.slice none 0 0), (.slice none 0 0), (.slice none 0 0), (.int .u16 0), (.int .u32 0), (.int .u64 0), (.slice none 0 0)]) W := fun _ => by kernel_rfl
theorem zero64 : ∀ W : World, (zeroValue 64).run Try.prog W = .ok (.agg #[(.int .u16 0), (.int .u32 0), (.int .u64 0), (.int .u64 0), (.slice none 0 0), (.int .i64 0)]) W := fun _ => by kernel_rfl
theorem zero75 : ∀ W : World, (zeroValue 75).run Try.prog W = .ok (.agg #[(.int .u16 0), (.int .u32 0), (.int .u64 0), (.int .u64 0)]) W := fun _ => by kernel_rfl
theorem zero78 : ∀ W : World, (zeroValue 78).run Try.prog W = .ok (.agg #[(.int .u16 0), (.int .u32 0), (.int .u64 0), (.slice none 0 0), (.slice none 0 0), (.slice none 0 0), (.slice none 0 0), (.slice none 0 0), (.bool false)]) W := fun _ => by kernel_rfl
theorem zero81 : ∀ W : World, (zeroValue 81).run Try.prog W = .ok (.agg #[]) W := fun _ => by kernel_rfl
theorem info22 : (Try.prog.info? 22).map (fun i => (i.zero, i.size, i.bytes)) = some (some (.slice none 0 0), 1, 24) := by kernel_rfl
theorem zero22 : ∀ W : World, (zeroValue 22).run Try.prog W = .ok (.slice none 0 0) W := fun _ => by kernel_rfl
theorem info27 : (Try.prog.info? 27).map (fun i => (i.zero, i.size, i.bytes)) = some (some (.agg #[(.int .u16 0), (.int .u32 0)]), 2, 8) := by kernel_rfl
theorem info29 : (Try.prog.info? 29).map (fun i => (i.zero, i.size, i.bytes)) = some (some (.agg #[(.int .u16 0), (.int .u32 0), (.slice none 0 0)]), 3, 32) := by kernel_rfl
theorem info37 : (Try.prog.info? 37).map (fun i => (i.zero, i.size, i.bytes)) = some (some (.int .u64 0), 1, 8) := by kernel_rfl
theorem zero37 : ∀ W : World, (zeroValue 37).run Try.prog W = .ok (.int .u64 0) W := fun _ => by kernel_rfl
theorem info38 : (Try.prog.info? 38).map (fun i => (i.zero, i.size, i.bytes)) = some (some (.slice none 0 0), 1, 24) := by kernel_rfl
theorem zero38 : ∀ W : World, (zeroValue 38).run Try.prog W = .ok (.slice none 0 0) W := fun _ => by kernel_rfl
theorem info43 : (Try.prog.info? 43).map (fun i => (i.zero, i.size, i.bytes)) = some (some (.agg #[(.int .u16 0), (.int .u32 0), (.int .u64 0), (.slice none 0 0), (.slice none 0 0), (.slice none 0 0), (.slice none 0 0), (.slice none 0 0), (.bool false), (.bool false), (.int .u64 0)]), 11, 152) := by kernel_rfl
theorem info62 : (Try.prog.info? 62).map (fun i => (i.zero, i.size, i.bytes)) = some (some (.agg #[(.int .i64 0), (.int .u64 0), (.slice none 0 0), (.slice none 0 0), (.slice none 0 0), (.int .u16 0), (.int .u32 0), (.int .u64 0), (.slice none 0 0)]), 9, 128) := by kernel_rfl
theorem info64 : (Try.prog.info? 64).map (fun i => (i.zero, i.size, i.bytes)) = some (some (.agg #[(.int .u16 0), (.int .u32 0), (.int .u64 0), (.int .u64 0), (.slice none 0 0), (.int .i64 0)]), 6, 56) := by kernel_rfl
theorem info70 : (Try.prog.info? 70).map (fun i => (i.zero, i.size, i.bytes)) = some (some (.slice none 0 0), 1, 24) := by kernel_rfl
theorem zero70 : ∀ W : World, (zeroValue 70).run Try.prog W = .ok (.slice none 0 0) W := fun _ => by kernel_rfl
theorem info78 : (Try.prog.info? 78).map (fun i => (i.zero, i.size, i.bytes)) = some (some (.agg #[(.int .u16 0), (.int .u32 0), (.int .u64 0), (.slice none 0 0), (.slice none 0 0), (.slice none 0 0), (.slice none 0 0), (.slice none 0 0), (.bool false)]), 9, 144) := by kernel_rfl
theorem ent9 : ∀ (xs : Array Value) (W : World), (callFunc 9 xs).run Try.prog W = .ok (.enter 9 xs) W := fun _ _ => by kernel_rfl
theorem ent10 : ∀ (xs : Array Value) (W : World), (callFunc 10 xs).run Try.prog W = .ok (.enter 10 xs) W := fun _ _ => by kernel_rfl
theorem ent11 : ∀ (xs : Array Value) (W : World), (callFunc 11 xs).run Try.prog W = .ok (.enter 11 xs) W := fun _ _ => by kernel_rfl
theorem ent12 : ∀ (xs : Array Value) (W : World), (callFunc 12 xs).run Try.prog W = .ok (.enter 12 xs) W := fun _ _ => by kernel_rfl
theorem ent13 : ∀ (xs : Array Value) (W : World), (callFunc 13 xs).run Try.prog W = .ok (.enter 13 xs) W := fun _ _ => by kernel_rfl
theorem ent14 : ∀ (xs : Array Value) (W : World), (callFunc 14 xs).run Try.prog W = .ok (.enter 14 xs) W := fun _ _ => by kernel_rfl
theorem ent15 : ∀ (xs : Array Value) (W : World), (callFunc 15 xs).run Try.prog W = .ok (.enter 15 xs) W := fun _ _ => by kernel_rfl
theorem ent16 : ∀ (xs : Array Value) (W : World), (callFunc 16 xs).run Try.prog W = .ok (.enter 16 xs) W := fun _ _ => by kernel_rfl
theorem ent17 : ∀ (xs : Array Value) (W : World), (callFunc 17 xs).run Try.prog W = .ok (.enter 17 xs) W := fun _ _ => by kernel_rfl
theorem ent18 : ∀ (xs : Array Value) (W : World), (callFunc 18 xs).run Try.prog W = .ok (.enter 18 xs) W := fun _ _ => by kernel_rfl
theorem ent19 : ∀ (xs : Array Value) (W : World), (callFunc 19 xs).run Try.prog W = .ok (.enter 19 xs) W := fun _ _ => by kernel_rfl
theorem ent20 : ∀ (xs : Array Value) (W : World), (callFunc 20 xs).run Try.prog W = .ok (.enter 20 xs) W := fun _ _ => by kernel_rfl
theorem ent21 : ∀ (xs : Array Value) (W : World), (callFunc 21 xs).run Try.prog W = .ok (.enter 21 xs) W := fun _ _ => by kernel_rfl
theorem ent22 : ∀ (xs : Array Value) (W : World), (callFunc 22 xs).run Try.prog W = .ok (.enter 22 xs) W := fun _ _ => by kernel_rfl
theorem ent23 : ∀ (xs : Array Value) (W : World), (callFunc 23 xs).run Try.prog W = .ok (.enter 23 xs) W := fun _ _ => by kernel_rfl
theorem ent24 : ∀ (xs : Array Value) (W : World), (callFunc 24 xs).run Try.prog W = .ok (.enter 24 xs) W := fun _ _ => by kernel_rfl
theorem ent25 : ∀ (xs : Array Value) (W : World), (callFunc 25 xs).run Try.prog W = .ok (.enter 25 xs) W := fun _ _ => by kernel_rfl
theorem ent26 : ∀ (xs : Array Value) (W : World), (callFunc 26 xs).run Try.prog W = .ok (.enter 26 xs) W := fun _ _ => by kernel_rfl
theorem ent27 : ∀ (xs : Array Value) (W : World), (callFunc 27 xs).run Try.prog W = .ok (.enter 27 xs) W := fun _ _ => by kernel_rfl
theorem ent28 : ∀ (xs : Array Value) (W : World), (callFunc 28 xs).run Try.prog W = .ok (.enter 28 xs) W := fun _ _ => by kernel_rfl
theorem ent29 : ∀ (xs : Array Value) (W : World), (callFunc 29 xs).run Try.prog W = .ok (.enter 29 xs) W := fun _ _ => by kernel_rfl
theorem ent30 : ∀ (xs : Array Value) (W : World), (callFunc 30 xs).run Try.prog W = .ok (.enter 30 xs) W := fun _ _ => by kernel_rfl
theorem ent31 : ∀ (xs : Array Value) (W : World), (callFunc 31 xs).run Try.prog W = .ok (.enter 31 xs) W := fun _ _ => by kernel_rfl
theorem ent32 : ∀ (xs : Array Value) (W : World), (callFunc 32 xs).run Try.prog W = .ok (.enter 32 xs) W := fun _ _ => by kernel_rfl
theorem ent33 : ∀ (xs : Array Value) (W : World), (callFunc 33 xs).run Try.prog W = .ok (.enter 33 xs) W := fun _ _ => by kernel_rfl
theorem ent34 : ∀ (xs : Array Value) (W : World), (callFunc 34 xs).run Try.prog W = .ok (.enter 34 xs) W := fun _ _ => by kernel_rfl
theorem ent35 : ∀ (xs : Array Value) (W : World), (callFunc 35 xs).run Try.prog W = .ok (.enter 35 xs) W := fun _ _ => by kernel_rfl
theorem ent36 : ∀ (xs : Array Value) (W : World), (callFunc 36 xs).run Try.prog W = .ok (.enter 36 xs) W := fun _ _ => by kernel_rfl
theorem ent37 : ∀ (xs : Array Value) (W : World), (callFunc 37 xs).run Try.prog W = .ok (.enter 37 xs) W := fun _ _ => by kernel_rfl
theorem ent38 : ∀ (xs : Array Value) (W : World), (callFunc 38 xs).run Try.prog W = .ok (.enter 38 xs) W := fun _ _ => by kernel_rfl
theorem ent40 : ∀ (xs : Array Value) (W : World), (callFunc 40 xs).run Try.prog W = .ok (.enter 40 xs) W := fun _ _ => by kernel_rfl
theorem ent48 : ∀ (xs : Array Value) (W : World), (callFunc 48 xs).run Try.prog W = .ok (.enter 48 xs) W := fun _ _ => by kernel_rfl
theorem ent49 : ∀ (xs : Array Value) (W : World), (callFunc 49 xs).run Try.prog W = .ok (.enter 49 xs) W := fun _ _ => by kernel_rfl
theorem ent50 : ∀ (xs : Array Value) (W : World), (callFunc 50 xs).run Try.prog W = .ok (.enter 50 xs) W := fun _ _ => by kernel_rfl
theorem ent51 : ∀ (xs : Array Value) (W : World), (callFunc 51 xs).run Try.prog W = .ok (.enter 51 xs) W := fun _ _ => by kernel_rfl
theorem ent53 : ∀ (xs : Array Value) (W : World), (callFunc 53 xs).run Try.prog W = .ok (.enter 53 xs) W := fun _ _ => by kernel_rfl
theorem ent54 : ∀ (xs : Array Value) (W : World), (callFunc 54 xs).run Try.prog W = .ok (.enter 54 xs) W := fun _ _ => by kernel_rfl
theorem ent57 : ∀ (xs : Array Value) (W : World), (callFunc 57 xs).run Try.prog W = .ok (.enter 57 xs) W := fun _ _ => by kernel_rfl
theorem ent58 : ∀ (xs : Array Value) (W : World), (callFunc 58 xs).run Try.prog W = .ok (.enter 58 xs) W := fun _ _ => by kernel_rfl
theorem ent59 : ∀ (xs : Array Value) (W : World), (callFunc 59 xs).run Try.prog W = .ok (.enter 59 xs) W := fun _ _ => by kernel_rfl
theorem ent60 : ∀ (xs : Array Value) (W : World), (callFunc 60 xs).run Try.prog W = .ok (.enter 60 xs) W := fun _ _ => by kernel_rfl
theorem ent61 : ∀ (xs : Array Value) (W : World), (callFunc 61 xs).run Try.prog W = .ok (.enter 61 xs) W := fun _ _ => by kernel_rfl
theorem ent62 : ∀ (xs : Array Value) (W : World), (callFunc 62 xs).run Try.prog W = .ok (.enter 62 xs) W := fun _ _ => by kernel_rfl
theorem ent63 : ∀ (xs : Array Value) (W : World), (callFunc 63 xs).run Try.prog W = .ok (.enter 63 xs) W := fun _ _ => by kernel_rfl
theorem ent64 : ∀ (xs : Array Value) (W : World), (callFunc 64 xs).run Try.prog W = .ok (.enter 64 xs) W := fun _ _ => by kernel_rfl
theorem ent65 : ∀ (xs : Array Value) (W : World), (callFunc 65 xs).run Try.prog W = .ok (.enter 65 xs) W := fun _ _ => by kernel_rfl
theorem ent67 : ∀ (xs : Array Value) (W : World), (callFunc 67 xs).run Try.prog W = .ok (.enter 67 xs) W := fun _ _ => by kernel_rfl
theorem ent68 : ∀ (xs : Array Value) (W : World), (callFunc 68 xs).run Try.prog W = .ok (.enter 68 xs) W := fun _ _ => by kernel_rfl
theorem ent69 : ∀ (xs : Array Value) (W : World), (callFunc 69 xs).run Try.prog W = .ok (.enter 69 xs) W := fun _ _ => by kernel_rfl
theorem ent70 : ∀ (xs : Array Value) (W : World), (callFunc 70 xs).run Try.prog W = .ok (.enter 70 xs) W := fun _ _ => by kernel_rfl
theorem ent71 : ∀ (xs : Array Value) (W : World), (callFunc 71 xs).run Try.prog W = .ok (.enter 71 xs) W := fun _ _ => by kernel_rfl
theorem ent72 : ∀ (xs : Array Value) (W : World), (callFunc 72 xs).run Try.prog W = .ok (.enter 72 xs) W := fun _ _ => by kernel_rfl
theorem ent73 : ∀ (xs : Array Value) (W : World), (callFunc 73 xs).run Try.prog W = .ok (.enter 73 xs) W := fun _ _ => by kernel_rfl
/-- Bytes, as values. -/
def bv (l : List Nat) : List Value := l.map fun (x : Nat) => .int .u8 (x : Int)
def elB (l : List Nat) (i : Nat) : Array Value := #[.int .u8 ((l.getD i 0 : Nat) : Int)]
theorem bv_len (l : List Nat) : (bv l).length = l.length := by simp [bv]
theorem bv_one (l : List Nat) : ∀ u ∈ bv l, u.oneCell' = true := by
  intro u hu; obtain ⟨x, _, rfl⟩ := List.mem_map.1 hu; rfl
theorem bv_app (l m : List Nat) : bv l ++ bv m = bv (l ++ m) := by simp [bv]
theorem Sl.src {w : World} {a : Option Addr} {c : Nat} {l : List Nat} (h : Sl w 1 l.length (.slice a l.length c) (elB l)) : 0 < l.length → ∃ ad, a = some ad ∧ ∀ j u, (bv l)[j]? = some u → w.cell? (ad.add j) = some u := by
  obtain ⟨a', c', e, hm, hE⟩ := h
  injection e with e1 e2 e3
  subst e1
  intro h0
  obtain ⟨b, off, rfl, hb, hc⟩ := hE h0
  refine ⟨_, rfl, fun j u hu => ?_⟩
  have hj : j < l.length := by
    rcases Nat.lt_or_ge j l.length with h | h
    · exact h
    · rw [List.getElem?_eq_none (by rw [bv_len]; exact h)] at hu; cases hu
  have hadd : (⟨b, off, none⟩ : Addr).add j = ⟨b, off + j, none⟩ := by unfold Addr.add; split <;> simp_all
  have := hc j hj 0 (by omega)
  rw [Nat.mul_one, Nat.add_zero] at this
  rw [hadd, this, ← hu]
  simp [elB, bv, List.getD, hj]
/-- Is it a width? -/
def wide (n : Int) : Bool := n == 1 || n == 2 || n == 4 || n == 8
end Go.Proofs.Ytbepaafgcbgmfaa

namespace Go.Proofs.Ytbepaafgcbgmfaa
open Go.ChangeShapes Go.WideShapes Go.ChangeAt Go.RowKit
set_option linter.unusedVariables false
set_option linter.unusedSimpArgs false
/-- The first k bytes of n's form of W bytes. -/
def putB (n : Nat) (W k : Nat) : List Nat := (List.range k).map fun j => n / 256 ^ (W - 1 - j) % 256
theorem putB_len (n W k : Nat) : (putB n W k).length = k := by simp [putB]
theorem putB_succ (n W k : Nat) : putB n W (k + 1) = putB n W k ++ [n / 256 ^ (W - 1 - k) % 256] := by simp [putB, List.range_succ]
theorem byte_at (n m : Nat) : (n : Int) / 2 ^ (8 * m) % 256 = ((n / 256 ^ m % 256 : Nat) : Int) := by
  have h : (256 : Nat) ^ m = 2 ^ (8 * m) := by rw [Nat.pow_mul]
  rw [h, Int.natCast_emod, Int.natCast_ediv, Int.natCast_pow]; rfl
end Go.Proofs.Ytbepaafgcbgmfaa

namespace Go.Proofs.Ytbepaafgcbgmfaa
open Go.ChangeShapes Go.WideShapes Go.ChangeAt Go.RowKit
set_option linter.unusedVariables false
set_option linter.unusedSimpArgs false
/-- Some bytes' slice, one of its bytes. -/
theorem Sl.byte {w : World} {a : Option Addr} {c : Nat} {l : List Nat} (h : Sl w 1 l.length (.slice a l.length c) (elB l)) {k : Nat} (hk : k < l.length) :
    ∃ b off, a = some ⟨b, off, none⟩ ∧ b < w.heap.size ∧ w.cell? ⟨b, off + k, none⟩ = some (.int .u8 ((l.getD k 0 : Nat) : Int)) := by
  obtain ⟨a', c', e, hm, hE⟩ := h
  injection e with e1 e2 e3
  subst e1
  obtain ⟨b, off, rfl, hb, hc⟩ := hE (by omega)
  refine ⟨b, off, rfl, hb, ?_⟩
  have := hc k hk 0 (by omega)
  rw [Nat.mul_one, Nat.add_zero] at this
  rw [this]; simp [elB]
theorem Sl.len {w : World} {v : Value} {l : List Nat} (h : Sl w 1 l.length v (elB l)) : ∃ a c, v = .slice a l.length c ∧ l.length ≤ 9223372036854775807 := by
  obtain ⟨a, c, rfl, hm, _⟩ := h
  exact ⟨a, c, rfl, by unfold maxLen at hm; omega⟩
theorem take_snoc (l : List Nat) (k : Nat) (h : k < l.length) : l.take (k + 1) = l.take k ++ [l.getD k 0] := by
  rw [List.take_succ_eq_append_getElem h]; simp [List.getD, h]
theorem putB_cons (n k : Nat) : putB n (k + 1) (k + 1) = n / 256 ^ k % 256 :: putB n k k := by
  unfold putB
  rw [List.range_succ_eq_map]
  simp only [List.map_cons, List.map_map]
  congr 1
  refine List.map_congr_left fun j _ => ?_
  simp only [Function.comp]
  rw [show k + 1 - 1 - (j + 1) = k - 1 - j by omega]
theorem form_step (n W k : Nat) (hk : k < W) : ((bv (List.replicate (W - k) 0 ++ putB n k k)).set (W - 1 - k) (.int .u8 ((n / 256 ^ k % 256 : Nat) : Int))).toArray = (bv (List.replicate (W - (k + 1)) 0 ++ putB n (k + 1) (k + 1))).toArray := by
  rw [putB_cons]
  have e : List.replicate (W - k) 0 = List.replicate (W - (k + 1)) 0 ++ [0] := by
    rw [show W - k = (W - (k + 1)) + 1 by omega, List.replicate_succ']
  rw [e]
  simp only [bv, List.map_append]
  congr 1
  rw [List.append_assoc, List.set_append]
  rw [if_neg (by simp; omega)]
  simp only [List.length_map, List.length_replicate]
  rw [show W - 1 - k - (W - (k + 1)) = 0 by omega]
  simp
theorem wrap_u64_in (x : Int) (h0 : 0 ≤ x) (h1 : x < 18446744073709551616) : IntKind.u64.wrap x = x := by
  simp [IntKind.wrap, IntKind.signed, IntKind.bits]; omega
end Go.Proofs.Ytbepaafgcbgmfaa

namespace Go.Proofs.Ytbepaafgcbgmfaa
open Go.ChangeShapes Go.WideShapes Go.ChangeAt Go.RowKit
set_option linter.unusedVariables false
set_option linter.unusedSimpArgs false
/-- What lent bytes' row holds. -/
def lent (l : List Nat) : List Nat := l ++ List.replicate 8 165
/-- The row after k bytes are laid. -/
def lentK (l : List Nat) (k : Nat) : List Nat := (lent l).take k ++ List.replicate (l.length + 8 - k) 0
theorem lent_len (l : List Nat) : (lent l).length = l.length + 8 := by simp [lent]
theorem lentK_zero (l : List Nat) : lentK l 0 = List.replicate (l.length + 8) 0 := by simp [lentK]
theorem lentK_full (l : List Nat) : lentK l (l.length + 8) = lent l := by
  unfold lentK
  rw [List.take_of_length_le (by rw [lent_len]; exact Nat.le_refl _)]; simp
theorem lentK_len (l : List Nat) (k : Nat) (hk : k ≤ l.length + 8) : (lentK l k).length = l.length + 8 := by simp [lentK, lent]; omega
theorem lentK_step (l : List Nat) (k x : Nat) (hk : k < l.length + 8) (hx : (lent l).getD k 0 = x) : (bv (lentK l k)).set k (.int .u8 (x : Int)) = bv (lentK l (k + 1)) := by
  have h1 : (lent l).take (k + 1) = (lent l).take k ++ [x] := by
    rw [← hx]; exact take_snoc _ _ (by rw [lent_len]; exact hk)
  have h2 : List.replicate (l.length + 8 - k) 0 = 0 :: List.replicate (l.length + 8 - (k + 1)) 0 := by
    rw [show l.length + 8 - k = (l.length + 8 - (k + 1)) + 1 by omega, List.replicate_succ]
  have h3 : ((lent l).take k).length = k := by rw [List.length_take, lent_len]; omega
  unfold lentK
  rw [h1, h2]
  simp only [bv, List.map_append, List.map_cons, List.map_nil]
  rw [List.set_append, if_neg (by rw [List.length_map, h3]; omega), List.length_map, h3, Nat.sub_self]
  simp
theorem lent_lt (l : List Nat) (k : Nat) (h : k < l.length) : (lent l).getD k 0 = l.getD k 0 := by
  simp only [lent, List.getD, List.getElem?_append_left h]
theorem lent_ge (l : List Nat) (k : Nat) (h : l.length ≤ k) (h2 : k < l.length + 8) : (lent l).getD k 0 = 165 := by
  simp only [lent, List.getD, List.getElem?_append_right h, List.getElem?_replicate]
  rw [if_pos (by omega)]; rfl
end Go.Proofs.Ytbepaafgcbgmfaa

namespace Go.Proofs.Ytbepaafgcbgmfaa
open Go.ChangeShapes Go.WideShapes Go.ChangeAt Go.RowKit
set_option linter.unusedVariables false
set_option linter.unusedSimpArgs false
/-- The number whose form bytes are. -/
def numB (l : List Nat) : Nat := l.foldl (fun a c => a * 256 + c) 0
theorem numB_snoc (l : List Nat) (c : Nat) : numB (l ++ [c]) = numB l * 256 + c := by simp [numB, List.foldl_append]
theorem foldl_lt (l : List Nat) : ∀ (a m : Nat), a < 256 ^ m → (∀ x ∈ l, x < 256) → l.foldl (fun a c => a * 256 + c) a < 256 ^ (m + l.length) := by
  induction l with
  | nil => intro a m h _; simpa using h
  | cons c l ih =>
    intro a m h hx
    have hc : c < 256 := hx c List.mem_cons_self
    have := ih (a * 256 + c) (m + 1) (by rw [Nat.pow_succ]; omega) (fun x hm => hx x (List.mem_cons_of_mem _ hm))
    simpa [Nat.add_assoc, Nat.add_comm 1] using this
theorem numB_lt (l : List Nat) (h : ∀ x ∈ l, x < 256) : numB l < 256 ^ l.length := by
  have := foldl_lt l 0 0 (by simp) h
  simpa [numB] using this
theorem numB_small (l : List Nat) (h : ∀ x ∈ l, x < 256) (h8 : l.length ≤ 8) : numB l < 18446744073709551616 := by
  refine Nat.lt_of_lt_of_le (numB_lt l h) ?_
  have h1 : (256 : Nat) ^ l.length ≤ 256 ^ 8 := Nat.pow_le_pow_right (by omega) h8
  have h2 : (256 : Nat) ^ 8 = 18446744073709551616 := by decide +kernel
  rw [h2] at h1
  exact h1
theorem or_byte (x c : Nat) (hx : x * 256 + c < 18446744073709551616) (hc : c < 256) : bits .or .u64 ((x : Int) * 256) (c : Int) = ((x * 256 + c : Nat) : Int) := by
  have h1 : x * 256 < 18446744073709551616 := Nat.lt_of_le_of_lt (Nat.le_add_right _ _) hx
  have h2 : c < 18446744073709551616 := Nat.lt_of_le_of_lt (Nat.le_add_left _ _) hx
  have h := bits_or_u64_nat (x * 256) c h1 h2
  rw [show (x * 256 ||| c) = x * 256 + c by
    have := Nat.two_pow_add_eq_or_of_lt (i := 8) (b := c) (by simpa using hc) x
    rw [Nat.mul_comm x 256]; exact this.symm] at h
  exact h
theorem getD_byte {l : List Nat} (h : ∀ x ∈ l, x < 256) (k : Nat) : l.getD k 0 < 256 := by
  by_cases hk : k < l.length
  · have : l.getD k 0 = l[k] := by simp [List.getD, hk]
    rw [this]; exact h _ (List.getElem_mem hk)
  · simp [List.getD, List.getElem?_eq_none (by omega : l.length ≤ k)]
end Go.Proofs.Ytbepaafgcbgmfaa

namespace Go.Proofs.Ytbepaafgcbgmfaa
open Go.ChangeShapes Go.WideShapes Go.ChangeAt Go.RowKit
section
variable {P : Program} {a : Act} {w : World} {o : Oper} {N : Act → World → Prop}
theorem Stp.bsl0 {B : Nat} {w0 : World} {L : List Res} {ty e : TypeId} {parts : Array (Nat × Operand)} (d : Tmp) (hd : o.dst = some d) (ho : o.op = .buildSlice ty 0 parts)
    (hv : ∀ W : World, (Instr.buildSlice ty 0 (parts.map fun (i, x) => (i, a.eval x))).run P W = .ok (.slice (some ⟨W.heap.size, 0, none⟩) 0 0) (W.alloc (.cells #[] e))) (H : St B w0 w L)
    (h : ∀ ap cp w', St B w0 w' (slc e 1 (.slice ap 0 cp) 0 [] :: L) → N (a.put (some d) (.slice ap 0 cp)) w') : Stp P o a w N := by
  rw [← hd] at h
  refine ⟨w.alloc (.cells #[] e), .inl ⟨_, ?_, h (some ⟨w.heap.size, 0, none⟩) 0 _ ?_⟩⟩
  · unfold execOp; simp only [ho]
    simp [hv]
  · exact H.new ((Below.refl _ _).alloc (Nat.le_refl _) _) (slc_sound (b := 0) ⟨by simp, .inr ⟨w.heap.size, 0, #[], rfl, Nat.zero_le _, heap_alloc_new w _, Nat.le_refl _, Nat.zero_le _, by simp, by simp⟩⟩) (fun g hg => by cases hg; exact Nat.le_refl _)
theorem run_append_none {t ty e : TypeId} {i : TypeInfo} (ht : P.underlying t = some (.slice e)) (hi : P.info? e = some i) (va : Option Addr) (n vc c : Nat) (hnc : n ≤ vc) :
    (Builtin.append_ #[t, t] ty #[.slice va n vc, .slice none 0 c]).run P w = .ok (.slice va n vc) w := by
  cases va <;> simp [Builtin.append_, run_underlying ht, sizeOf, typeInfo, hi, Builtin.lenOf, Builtin.firstCells, storeCells, hnc]
theorem Stp.apps {B : Nat} {w0 : World} {L : List Res} {L' : Value → List Res} {ty e : TypeId} {z : Value} {size bytes : Nat} {s x : Operand} {va A : Option Addr} {vc : Nat} {n : Nat} {xs : List Value} {m c : Nat} {news : List Value} (d : Tmp) (hd : o.dst = some d)
    (ho : o.op = .call { callee := .builtin .append, args := #[s, x], argTypes := #[ty, ty] }) (ht : P.underlying ty = some (.slice e)) (hi : (P.info? e).map (fun i => (i.zero, i.size, i.bytes)) = some (some z, size, bytes)) (hzs : z.cells.size = size) (hsz : 0 < size)
    (hs : a.eval s = .slice va n vc) (hx : a.eval x = .slice A m c) (H : St B w0 w L) (hu : ∀ v', Upd L (slc e size (.slice va n vc) n xs) (slc e size v' (n + m) (xs ++ news)) (L' v')) (hl : news.length = m * size) (hnews : 0 < m → ∃ ad, A = some ad ∧ ∀ j u, news[j]? = some u → w.cell? (ad.add j) = some u) (h1 : ∀ u ∈ news, u.oneCell' = true)
    (h63 : n + m ≤ maxLen) (hbytes : (n + m) * bytes ≤ 140737488355328)
    (h : ∀ ap cp w', St B w0 w' (L' (.slice ap (n + m) cp)) → N (a.put (some d) (.slice ap (n + m) cp)) w') : Stp P o a w N := by
  cases A with
  | some ad =>
    refine Stp.app d hd ho ht hi hzs hsz hs hx H hu hl (fun j u hj => ?_) h1 h63 hbytes h
    rcases Nat.eq_zero_or_pos m with h0 | h0
    · have : news = [] := List.eq_nil_of_length_eq_zero (by rw [hl, h0, Nat.zero_mul])
      rw [this] at hj; simp at hj
    · obtain ⟨ad', e1, e2⟩ := hnews h0
      cases e1
      exact e2 j u hj
  | none =>
    have h0 : m = 0 := by
      rcases Nat.eq_zero_or_pos m with h0 | h0
      · exact h0
      · obtain ⟨_, e1, _⟩ := hnews h0; cases e1
    subst h0
    have : news = [] := List.eq_nil_of_length_eq_zero (by simpa using hl)
    subst this
    rw [← hd] at h
    obtain ⟨i, hi1, hi2, hi3, hi4⟩ := info_parts hi
    have hown := H.getSlc (hu (.slice va n vc)).mem
    have hnc : n ≤ vc := by
      rcases hown.2 with ⟨e1, e2⟩ | ⟨g, cap, cur, e1, hbg, hgc, hnc, hcm, hcs, htake⟩
      · omega
      · cases e1; exact hnc
    have hr := run_append_none (P := P) (w := w) (ty := o.type) ht hi1 va n vc c hnc
    refine ⟨w, .inl ⟨_, ?_, h va vc w ?_⟩⟩
    · unfold execOp
      simp only [ho, resolve, invoke, builtin, Sem.run_bind, Sem.run_pure, Result.andThen_ok, List.map_toArray, List.map_cons, List.map_nil, hs, hx, hr]
      rfl
    · refine H.upd (hu _) ⟨rfl, rfl, rfl, Nat.le_refl _, fun _ _ _ => rfl⟩ (slc_sound (b := B) ?_) (fun g hg => .inl hg)
      simpa using hown
end
end Go.Proofs.Ytbepaafgcbgmfaa

namespace Go.Proofs.Ytbepaafgcbgmfaa
open Go.ChangeShapes Go.WideShapes Go.ChangeAt Go.RowKit Go.Deep
set_option linter.unusedVariables false
section
variable {H : Type} {enc : TypeId × Value → H} {P : Program}
theorem trodAll_lt {W : World} : ∀ (ts : List TypeId) (vs : List Value) (ds : List (DataW H)) (p : List MemPlace), DataW.TrodAll enc P W 0 (fun _ => true) true ts vs ds p → ∀ x ∈ p, x.block < W.heap.size
  | [], vs, ds, p, h => by
    cases vs with
    | nil => obtain ⟨_, _, rfl⟩ := trodAll_nil h; simp
    | cons v vs => simp [DataW.TrodAll] at h
  | t :: ts, vs, ds, p, h => by
    obtain ⟨v0, vs0, d0, ds0, p0, q0, _, rfl, rfl, h0, r0⟩ := trodAll_cons h
    intro x hx
    rcases List.mem_append.1 hx with hx | hx
    · obtain ⟨m, hm⟩ := h0; exact DataW.trod_lt m _ _ _ hm x hx
    · exact trodAll_lt ts _ _ _ r0 x hx
theorem trodAll_stays (hl : laidOutB P = true) {W W' : World} (hb : Below W.heap.size W W') : ∀ (ts : List TypeId) (vs : List Value) (ds : List (DataW H)) (p : List MemPlace),
    (ts.all fun t => P.readableRec t && decide (t < P.types.size)) = true → DataW.TrodAll enc P W 0 (fun _ => true) true ts vs ds p → DataW.TrodAll enc P W' 0 (fun b => decide (b < W.heap.size)) true ts vs ds p
  | [], vs, ds, p, _, h => by
    cases vs with
    | nil => obtain ⟨_, rfl, rfl⟩ := trodAll_nil h; exact trodAll_mk0
    | cons v vs => simp [DataW.TrodAll] at h
  | t :: ts, vs, ds, p, hr, h => by
    obtain ⟨v0, vs0, d0, ds0, p0, q0, hv, rfl, rfl, h0, r0⟩ := trodAll_cons h
    subst hv
    simp only [List.all_cons, Bool.and_eq_true, decide_eq_true_eq] at hr
    have hlt : ∀ x ∈ p0, x.block < W.heap.size := by obtain ⟨m, hm⟩ := h0; exact DataW.trod_lt m _ _ _ hm
    exact trodAll_cons_mk (Below.trod hl hr.1.1 hr.1.2 h0 hb hlt) (trodAll_stays hl hb ts _ _ _ (by simpa using hr.2) r0)
theorem trodAll_len {W : World} : ∀ (ts : List TypeId) (vs : List Value) (ds : List (DataW H)) (p : List MemPlace), DataW.TrodAll enc P W 0 (fun _ => true) true ts vs ds p → ds.length = ts.length
  | [], vs, ds, p, h => by
    cases vs with
    | nil => obtain ⟨_, rfl, _⟩ := trodAll_nil h; rfl
    | cons v vs => simp [DataW.TrodAll] at h
  | t :: ts, vs, ds, p, h => by
    obtain ⟨v0, vs0, d0, ds0, p0, q0, hv, rfl, rfl, h0, r0⟩ := trodAll_cons h
    simp [trodAll_len ts _ _ _ r0]
end
/-- THE ROW's STEP of a law: its walk returns true, and nothing that was there has turned. -/
theorem law_lifted {H : Type} {enc : TypeId × Value → H} {C : Checked} {os : Os} {f : FuncId} {fn : Func} {s : ChangeSpec} {tb : TypeId} (own : ownKnob C.prog.godebug = none) (started : os.Started) (noInit : C.prog.inits.idxOf? f = none) (hfn : C.prog.funcs[f]? = some fn)
    (hl : laidOutB C.prog = true) (hres : fn.resultTypes = #[tb]) (hb : C.prog.underlying tb = some .bool) (hvars : s.vars = []) (hread : (fn.params.toList.all fun t => C.prog.readableRec t && decide (t < C.prog.types.size)) = true)
    (hs : ∀ ds : List (DataW H), ds.length = fn.params.toList.length → (s.fn H ds).results = [.lit (.bool true)] ∧ (s.fn H ds).args = ds ∧ (s.fn H ds).vars = [])
    (witness : ∃ (w : World) (tape : Tape) (i : Input), w.os = os ∧ (w.forCall tape i).Shaped C.prog ∧ i.vars = [] ∧ Input.okWide C.prog (w.forCall tape i) .any w.heap.size f i ∧
      s.pre6 enc C.prog fn [] false (w.forCall tape i).memory i.args ∧ ({} : Assume).holds C.prog (lone (Frame.enter C.prog f i.args .normal) [] (w.forCall tape i)))
    (walk : ∀ (W : World) (base : Nat) (args : Array Value) (ds : List (DataW H)) (p : List MemPlace), (∀ (j : Nat) t v, fn.params[j]? = some t → args[j]? = some v → Value.okWide C.prog W .any base t v) →
      DataW.TrodAll enc C.prog W 0 (fun _ => true) true fn.params.toList args.toList ds p → Calls C.prog f args W (Ret fun v w' => v = .bool true ∧ Below W.heap.size W w')) :
    ReturnsInHanded {} C os f .any (s.pre6 enc C.prog fn [] false) (s.post enc C.prog fn false true false false) := by
  refine returnsInHanded_of_change (C := C) own started noInit hfn witness ?_
  intro W base args ds gs before hval hW _ _
  have hW' := hW
  obtain ⟨p, q, hA0, hV, rfl, hfz, hnd⟩ := hW
  have hA : DataW.TrodAll enc C.prog W 0 (fun _ => true) true fn.params.toList args.toList ds p := hA0
  have hg : gs = [] ∧ q = [] := by
    rw [hvars] at hV; obtain ⟨rfl, rfl⟩ := trodVars_none hV; exact ⟨rfl, rfl⟩
  obtain ⟨rfl, rfl⟩ := hg
  obtain ⟨e1, e2, e3⟩ := hs ds (trodAll_len _ _ _ _ hA)
  refine (walk W base args ds p hval hA).mono fun e W' hr => ?_
  obtain ⟨v, rfl, rfl, bel⟩ := hr
  refine ⟨_, rfl, _, _, _, [], p, [], hW', ?_, ?_, ?_, bel.frame _, fun h => by cases h⟩
  · simp only [List.append_nil]
    rw [e1, hres]
    exact trodAll_mk1 (shut_bool hb _)
  · simp only [List.append_nil]
    rw [e2]
    exact trodAll_stays hl bel _ _ _ _ hread hA
  · simp only [List.append_nil]
    rw [e3, hvars]
    rfl

/-! ### Arguments, opened -/
section
variable {H : Type} {enc : TypeId × Value → H} {P : Program}
theorem add_none (b off n : Nat) : (⟨b, off, none⟩ : Addr).add n = ⟨b, off + n, none⟩ := by unfold Addr.add; split <;> simp_all
/-- A slice that came in: how many elements, and each one's cells and reading. -/
theorem open_sl {t e : TypeId} {size : Nat} {W : World} {base : Nat} {v : Value} {d : DataW H} {p : List MemPlace} (ht : P.underlying t = some (.slice e)) (hC : P.cellsOf e = size) (hpos : 0 < size)
    (hv : Value.okWide P W .any base t v) (h : DataW.Trod enc P W 0 (fun _ => true) true t v d p) :
    ∃ (n : Nat) (E : Nat → Array Value), Sl W size n v E ∧ ∀ i, i < n → (E i).size = size ∧ ∃ (fuel : Nat) (y : DataW H × List MemPlace), DataW.trod enc P W 0 (fun _ => true) true fuel e (E i).toList = some y := by
  obtain ⟨a0, len0, cap0, rfl⟩ := okWide_slice ht hv
  obtain ⟨fuel, hf⟩ := h
  rcases open_slice ht hf with ⟨hcs, _⟩ | ⟨a, len, cap, m, n, D, Pl, hcs, _, hl, hm, hmm, _, hi⟩
  · simp [Value.cells] at hcs
    obtain ⟨rfl, rfl, rfl⟩ := hcs
    exact ⟨0, fun _ => #[], ⟨_, _, rfl, by simp [maxLen], fun h => absurd h (Nat.lt_irrefl _)⟩, fun i h => absurd h (Nat.not_lt_zero _)⟩
  · simp [Value.cells] at hcs
    obtain ⟨rfl, rfl, rfl⟩ := hcs
    have hlm : len0 ≤ m := by rw [hmm]; simp; omega
    have hex : ∀ i, ∃ cs' : List Value, i < len0 → W.cells? 0 (a.add (i * size)) size = some cs' ∧ DataW.trod enc P W 0 (fun _ => true) true n e cs' = some (D i, Pl i) := fun i => by
      by_cases hlt : i < len0
      · obtain ⟨cs', h1, h2⟩ := hi i (by omega)
        rw [hC] at h1
        exact ⟨cs', fun _ => ⟨h1, h2⟩⟩
      · exact ⟨[], fun hn => absurd hn hlt⟩
    obtain ⟨F, hF⟩ := Classical.axiomOfChoice hex
    refine ⟨len0, fun i => (F i).toArray, ⟨_, _, rfl, by omega, fun h0 => ?_⟩, fun i hlt => ?_⟩
    · obtain ⟨b, off, spot⟩ := a
      obtain ⟨h1, _⟩ := hF 0 h0
      obtain ⟨_, hcl, hat⟩ := World.cells?_some h1
      have h2 := hat 0 hpos
      rw [List.getElem?_eq_getElem (by omega)] at h2
      have hspot : spot = none := by
        have := World.cell?_spot h2
        simpa [Addr.add] using this
      subst hspot
      have hb : b < W.heap.size := by
        have := World.block_lt_of_cell? W _ h2
        simpa [add_none] using this
      refine ⟨b, off, rfl, hb, fun i hlt j hj => ?_⟩
      obtain ⟨h3, _⟩ := hF i hlt
      obtain ⟨_, _, hat'⟩ := World.cells?_some h3
      have := hat' j hj
      rw [add_none, add_none] at this
      rw [this]; simp
    · obtain ⟨h3, h4⟩ := hF i hlt
      obtain ⟨_, hcl, _⟩ := World.cells?_some h3
      exact ⟨by simpa using hcl, n, _, h4⟩
end
end Go.Proofs.Ytbepaafgcbgmfaa

namespace Go.Proofs.Ytbepaafgcbgmfaa
open Go.ChangeShapes Go.WideShapes Go.ChangeAt Go.RowKit Go.Deep
set_option linter.unusedVariables false
set_option linter.unusedSimpArgs false
theorem own_sl {w : World} {b : Nat} {v : Value} {l : List Nat} (h : w.ownsRow b 5 1 v l.length (bv l)) (hm : l.length ≤ 1000000) : Sl w 1 l.length v (elB l) :=
  Sl.of_own h (fun i hi => by simp [bv, elB, List.getD, hi]) (by unfold maxLen; omega)
theorem row_sl {w : World} {g c : Nat} {l : List Nat} (h : rowAt w g = some (bv l).toArray) (hm : l.length ≤ 1000000) : Sl w 1 l.length (.slice (some ⟨g, 0, none⟩) l.length c) (elB l) :=
  Sl.of_row h (by unfold maxLen; omega) (fun i hi j hj => by
    obtain rfl : j = 0 := by omega
    simp [bv, elB, List.getD, hi])
theorem own_slk {w : World} {b m : Nat} {v : Value} {l : List Nat} (h : w.ownsRow b 5 1 v m (bv l)) (hm : m = l.length) (hl : l.length ≤ 1000000) : Sl w 1 l.length v (elB l) := by
  subst hm; exact own_sl h hl
theorem own_src {w : World} {b m c : Nat} {A : Option Addr} {xs : List Value} (h : w.ownsRow b 5 1 (.slice A m c) m xs) : 0 < m → ∃ ad, A = some ad ∧ ∀ j u, xs[j]? = some u → w.cell? (ad.add j) = some u := fun h0 => by
  have h' := h
  rcases h'.2 with ⟨_, e1⟩ | ⟨g, cap, cur, e1, _⟩
  · omega
  · cases e1
    exact ⟨_, rfl, h.cells (g := g) rfl⟩
theorem lent_sl {w : World} {g : Nat} {l : List Nat} (h : rowAt w g = some (bv (lent l)).toArray) (hl : l.length ≤ 1000000) : Sl w 1 l.length (.slice (some ⟨g, 0, none⟩) l.length (l.length + 8)) (elB l) :=
  Sl.of_row h (by unfold maxLen; omega) (fun i hi j hj => by
    obtain rfl : j = 0 := by omega
    have := lent_lt l i hi
    rw [Nat.mul_one, Nat.add_zero]
    simp only [elB, bv, List.getElem?_toArray, List.getElem?_map]
    rw [List.getElem?_eq_getElem (by rw [lent_len]; omega)]
    rw [← this]
    simp [List.getD, lent, hi]
    rw [List.getElem?_append_left hi]; simp [hi])
set_option maxRecDepth 100000 in
/-- Bytes that came in. -/
theorem open_bs {H : Type} {enc : TypeId × Value → H} {W : World} {base : Nat} {v : Value} {d : DataW H} {p : List MemPlace} (hv : Value.okWide Try.prog W .any base 60 v) (h : DataW.Trod enc Try.prog W 0 (fun _ => true) true 60 v d p) :
    ∃ l : List Nat, (∀ x ∈ l, x < 256) ∧ Sl W 1 l.length v (elB l) := by
  obtain ⟨n, E, hS, hel⟩ := open_sl (size := 1) Try.underlying60 (by kernel_rfl) (by omega) hv h
  have hex : ∀ i, ∃ q : Nat, i < n → E i = #[.int .u8 (q : Int)] ∧ q < 256 := fun i => by
    by_cases hi : i < n
    · obtain ⟨hs, fuel, y, ht⟩ := hel i hi
      obtain ⟨k, e0, _, w0⟩ := DataW.trod_int Try.underlying5 ht
      have hb := bounds_u8 w0
      refine ⟨k.toNat, fun _ => ⟨?_, by omega⟩⟩
      rw [show ((k.toNat : Nat) : Int) = k by omega]
      exact Array.toList_inj.1 e0
    · exact ⟨0, fun hn => absurd hn hi⟩
  refine ⟨(List.range n).map fun i => Classical.choose (hex i), ?_, ?_⟩
  · intro q hq
    obtain ⟨i, hi, rfl⟩ := List.mem_map.1 hq
    exact ((Classical.choose_spec (hex i)) (by simpa using hi)).2
  · have hlen : ((List.range n).map fun i => Classical.choose (hex i)).length = n := by simp
    rw [hlen]
    obtain ⟨a, c, rfl, hm, hc⟩ := hS
    refine ⟨a, c, rfl, hm, fun h0 => ?_⟩
    obtain ⟨b, off, rfl, hb, hcell⟩ := hc h0
    refine ⟨b, off, rfl, hb, fun i hi j hj => ?_⟩
    rw [hcell i hi j hj, (Classical.choose_spec (hex i) hi).1]
    simp [elB, List.getD, hi]
theorem nat_u64 {n : Int} (h : (Lit.int .u64 n).wf = true) : ∃ k : Nat, n = k ∧ k < 18446744073709551616 := ⟨n.toNat, by have := bounds_u64 h; omega, by have := bounds_u64 h; omega⟩
theorem cap_in {H : Type} {enc : TypeId × Value → H} {P : Program} {W : World} {base : Nat} {t e : TypeId} {v : Value} {d : DataW H} {p : List MemPlace} (ht : P.underlying t = some (.slice e)) (hv : Value.okWide P W .any base t v) (h : DataW.Trod enc P W 0 (fun _ => true) true t v d p) :
    ∀ (a : Option Addr) (n c : Nat), v = .slice a n c → n ≤ c := by
  intro a n c e0
  subst e0
  obtain ⟨fuel, hf⟩ := h
  rcases open_slice ht hf with ⟨hcs, _⟩ | ⟨a, len, cap, m, n, D, Pl, hcs, _, hl, hm, hmm, _, hi⟩
  · simp [Value.cells] at hcs
    omega
  · simp [Value.cells] at hcs
    omega
theorem take_sl {w : World} {a : Option Addr} {c : Nat} {l : List Nat} (W : Nat) (h : Sl w 1 l.length (.slice a l.length c) (elB l)) (hW : W ≤ l.length) : Sl w 1 (l.take W).length (.slice a (l.take W).length c) (elB (l.take W)) := by
  have hm : (l.take W).length = W := by rw [List.length_take]; exact Nat.min_eq_left hW
  obtain ⟨a', c', e, hml, hc⟩ := h
  injection e with e1 e2 e3
  subst e1
  refine ⟨a, c, rfl, by rw [hm]; exact Nat.le_trans hW hml, fun h0 => ?_⟩
  rw [hm] at h0
  obtain ⟨b, off, rfl, hb, hcell⟩ := hc (by omega)
  refine ⟨b, off, rfl, hb, fun i hi j hj => ?_⟩
  rw [hm] at hi
  rw [hcell i (by omega) j hj]
  simp [elB, List.getD, List.getElem?_take, hi]
end Go.Proofs.Ytbepaafgcbgmfaa
