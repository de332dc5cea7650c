/- Digits of base 16: texts as lists of bytes, and the contracts of layer 1's digits; the bounds stand in each. -/
import Derived.Test.YtmeampigomhdpaaStr
import Derived.Test.YtmeampigomhdpaaBits9
import Derived.Test.YtmeampigomhdpaaSlAt
import Derived.Test.YtmeampigomhdpaaBits8
import Derived.Laws.Strings2
import Derived.Laws.Externs
namespace Go.Proofs.Ytmeampigomhdpaa
open Go.ChangeShapes Go.WideShapes Go.ChangeAt Go.RowKit
set_option linter.unusedVariables false
set_option linter.unusedSimpArgs false
/-! ### A text as a list of bytes -/
theorem str_size (l : List Nat) : (strOf l).size = l.length := by simp [strOf, ByteArray.size]
theorem str_app (a b : List Nat) : strOf a ++ strOf b = strOf (a ++ b) := by
  apply ByteArray.ext
  simp [strOf, ByteArray.data_append]
theorem str_get (l : List Nat) (i x : Nat) (hi : l[i]? = some x) (hx : x < 256) (h : i < (strOf l).size) : ((strOf l)[i]'h).toNat = x := by
  have hl : i < l.length := (List.getElem?_eq_some_iff.1 hi).1
  have e : (strOf l)[i]'h = UInt8.ofNat (l[i]'hl) := by
    show ((strOf l).data[i]'_) = _
    simp [strOf]
  rw [e, show l[i]'hl = x by rw [List.getElem?_eq_getElem hl] at hi; exact Option.some.inj hi]
  exact Nat.mod_eq_of_lt hx
theorem str_index (l : List Nat) (k : IntKind) (z : Int) (i x : Nat) (hz : z = (i : Int)) (hi : l[i]? = some x) (hx : x < 256) (w : World) : (Instr.index 9 (.string (strOf l)) (.int k z)).run Try.prog w = .ok (.int .u8 (x : Int)) w := by
  subst hz
  have hl : i < l.length := (List.getElem?_eq_some_iff.1 hi).1
  have hs := str_size l
  rw [run_index_string w 9 _ _ _ Try.underlying9, dif_pos ⟨by omega, by omega⟩]
  congr 2
  have := str_get l i x hi hx (by omega)
  exact congrArg (fun (n : Nat) => (n : Int)) this
/-! ### Digits -/
/-- A digit of base 16. -/
def dig (x : Nat) : Nat := if x < 10 then 48 + x else 87 + x
theorem dig_lt (x : Nat) (h : x < 16) : dig x < 256 := by unfold dig; split <;> omega
theorem shr4 (x : Nat) (h : x < 256) : ((x : Int) / 16) = ((x / 16 : Nat) : Int) := by omega
theorem and15 (x : Nat) (h : x < 256) : bits .and .u8 (x : Int) 15 = ((x % 16 : Nat) : Int) := by
  have := (by decide +kernel : ∀ x : Fin 256, bits .and .u8 ((x.val : Nat) : Int) 15 = ((x.val % 16 : Nat) : Int))
  exact this ⟨x, h⟩
/-- What a byte is as a digit: its value, or none. -/
def val (c : Nat) : Option Nat := if 48 ≤ c ∧ c ≤ 57 then some (c - 48) else if 97 ≤ c ∧ c ≤ 102 then some (c - 87) else none
theorem val_lt {c x : Nat} (h : val c = some x) : x < 16 := by
  unfold val at h
  split at h
  · injection h with h; omega
  · split at h
    · injection h with h; omega
    · cases h
theorem val_dig (x : Nat) (h : x < 16) : val (dig x) = some x := by
  have := (by decide +kernel : ∀ x : Fin 16, val (dig x.val) = some x.val)
  exact this ⟨x, h⟩
theorem digs : (⟨#[48, 49, 50, 51, 52, 53, 54, 55, 56, 57, 97, 98, 99, 100, 101, 102]⟩ : ByteArray) = strOf [48, 49, 50, 51, 52, 53, 54, 55, 56, 57, 97, 98, 99, 100, 101, 102] := rfl
theorem dig_get (x : Nat) (h : x < 16) : ([48, 49, 50, 51, 52, 53, 54, 55, 56, 57, 97, 98, 99, 100, 101, 102] : List Nat)[x]? = some (dig x) := by
  have := (by decide +kernel : ∀ x : Fin 16, ([48, 49, 50, 51, 52, 53, 54, 55, 56, 57, 97, 98, 99, 100, 101, 102] : List Nat)[x.val]? = some (dig x.val))
  exact this ⟨x, h⟩
theorem dig_index (k : IntKind) (z : Int) (x : Nat) (hz : z = (x : Int)) (hx : x < 16) (w : World) : (Instr.index 9 (.string ⟨#[48, 49, 50, 51, 52, 53, 54, 55, 56, 57, 97, 98, 99, 100, 101, 102]⟩) (.int k z)).run Try.prog w = .ok (.int .u8 (dig x : Int)) w := by
  rw [digs]; exact str_index _ k z x _ hz (dig_get x hx) (dig_lt x hx) w
theorem dig_slice (k k' : IntKind) (z z' : Int) (x : Nat) (hz : z = (x : Int)) (hz' : z' = (x : Int) + 1) (hx : x < 16) (w : World) : (Instr.slice 9 (.string ⟨#[48, 49, 50, 51, 52, 53, 54, 55, 56, 57, 97, 98, 99, 100, 101, 102]⟩) (some (.int k z)) (some (.int k' z')) none).run Try.prog w = .ok (.string (strOf [dig x])) w := by
  subst hz hz'
  have hsz : (⟨#[48, 49, 50, 51, 52, 53, 54, 55, 56, 57, 97, 98, 99, 100, 101, 102]⟩ : ByteArray).size = 16 := rfl
  rw [run_slice_string w 9 _ _ _ _ _ Try.underlying9 (by omega) (by omega) (by omega)]
  congr 2
  rw [show ((x : Int)).toNat = x by omega, show ((x : Int) + 1).toNat = x + 1 by omega]
  have := (by decide +kernel : ∀ x : Fin 16, (⟨#[48, 49, 50, 51, 52, 53, 54, 55, 56, 57, 97, 98, 99, 100, 101, 102]⟩ : ByteArray).extract x.val (x.val + 1) = strOf [dig x.val])
  exact this ⟨x, hx⟩
theorem dig_find (c : Nat) (hc : c < 256) : firstIdx ⟨#[48, 49, 50, 51, 52, 53, 54, 55, 56, 57, 97, 98, 99, 100, 101, 102]⟩ ((c : Int)).toNat.toUInt8 = match val c with | some x => (x : Int) | none => -1 := by
  have := (by decide +kernel : ∀ c : Fin 256, firstIdx ⟨#[48, 49, 50, 51, 52, 53, 54, 55, 56, 57, 97, 98, 99, 100, 101, 102]⟩ (((c.val : Nat) : Int)).toNat.toUInt8 = match val c.val with | some x => (x : Int) | none => -1)
  exact this ⟨c, hc⟩
attribute [local irreducible] strOf
section
variable {P : Program} {ops : Array Oper} {S : World → Prop} {o : Oper} {a : Act} {v : Value}
theorem Yld.index {xT : TypeId} {x ix : Operand} {vx vi : Value} (hw : Region.wanted o (yielded ops a.tmps) = true) (ho : o.op = .index xT x ix) (hx : a.eval x = vx) (hi : a.eval ix = vi) (h : ∀ W : World, (Instr.index xT vx vi).run P W = .ok v W) : YieldsIf P ops S o v a :=
  .inl ⟨hw, fun W _ => by unfold execOp; simp only [ho, hx, hi]; simp [h]⟩
theorem Yld.slice2 {xT : TypeId} {x lo hi : Operand} {vx vl vh : Value} (hw : Region.wanted o (yielded ops a.tmps) = true) (ho : o.op = .slice xT x (some lo) (some hi) none) (hx : a.eval x = vx) (hl : a.eval lo = vl) (hh : a.eval hi = vh) (hs : P.underlying xT = some .string) (h : ∀ W : World, (Instr.slice xT vx (some vl) (some vh) none).run P W = .ok v W) : YieldsIf P ops S o v a :=
  .inl ⟨hw, fun W _ => by unfold execOp; simp only [ho]; simp [hx, hl, hh, Instr.sliceAt, run_underlying hs, h]⟩
theorem Yld.cat {xT yT : TypeId} {x y : Operand} {p q : List Nat} (hw : Region.wanted o (yielded ops a.tmps) = true) (ho : o.op = .binOp .add xT x y yT) (hx : a.eval x = .string (strOf p)) (hy : a.eval y = .string (strOf q)) (hm : p.length + q.length ≤ 1000000) : YieldsIf P ops S o (.string (strOf (p ++ q))) a :=
  .inl ⟨hw, fun W _ => by
    have hmx : IntKind.i64.max = 9223372036854775807 := by decide
    have hs : ¬ (((strOf p).size + (strOf q).size : Nat) : Int) > IntKind.i64.max := by rw [str_size, str_size, hmx]; omega
    unfold execOp; simp only [ho]
    rw [hx, hy, binOp_string_add]
    unfold Op.stringOp
    simp only [if_neg hs, str_app]
    simp [eqGuard]⟩
end
end Go.Proofs.Ytmeampigomhdpaa
