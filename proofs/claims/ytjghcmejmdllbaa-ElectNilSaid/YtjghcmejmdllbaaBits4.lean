/- Contracts of layer 1's references Lent and Kept; the bounds on lengths stand in each. -/
import Derived.Test.YtjghcmejmdllbaaBits3
namespace Go.Proofs.Ytjghcmejmdllbaa
open Go.ChangeShapes Go.WideShapes Go.ChangeAt Go.RowKit
set_option linter.unusedVariables false
set_option linter.unusedSimpArgs false
/-- What lent bytes' row holds. -/
def lent (l : List Nat) : List Nat := l ++ List.replicate 8 165
/-- The row after k bytes are laid. -/
def lentK (l : List Nat) (k : Nat) : List Nat := (lent l).take k ++ List.replicate (l.length + 8 - k) 0
theorem lent_len (l : List Nat) : (lent l).length = l.length + 8 := by simp [lent]
theorem lentK_zero (l : List Nat) : lentK l 0 = List.replicate (l.length + 8) 0 := by simp [lentK]
theorem lentK_full (l : List Nat) : lentK l (l.length + 8) = lent l := by
  unfold lentK
  rw [List.take_of_length_le (by rw [lent_len]; exact Nat.le_refl _)]; simp
theorem lentK_len (l : List Nat) (k : Nat) (hk : k ≤ l.length + 8) : (lentK l k).length = l.length + 8 := by simp [lentK, lent]; omega
theorem lentK_step (l : List Nat) (k x : Nat) (hk : k < l.length + 8) (hx : (lent l).getD k 0 = x) : (bv (lentK l k)).set k (.int .u8 (x : Int)) = bv (lentK l (k + 1)) := by
  have h1 : (lent l).take (k + 1) = (lent l).take k ++ [x] := by
    rw [← hx]; exact take_snoc _ _ (by rw [lent_len]; exact hk)
  have h2 : List.replicate (l.length + 8 - k) 0 = 0 :: List.replicate (l.length + 8 - (k + 1)) 0 := by
    rw [show l.length + 8 - k = (l.length + 8 - (k + 1)) + 1 by omega, List.replicate_succ]
  have h3 : ((lent l).take k).length = k := by rw [List.length_take, lent_len]; omega
  unfold lentK
  rw [h1, h2]
  simp only [bv, List.map_append, List.map_cons, List.map_nil]
  rw [List.set_append, if_neg (by rw [List.length_map, h3]; omega), List.length_map, h3, Nat.sub_self]
  simp
theorem lent_lt (l : List Nat) (k : Nat) (h : k < l.length) : (lent l).getD k 0 = l.getD k 0 := by
  simp only [lent, List.getD, List.getElem?_append_left h]
theorem lent_ge (l : List Nat) (k : Nat) (h : l.length ≤ k) (h2 : k < l.length + 8) : (lent l).getD k 0 = 165 := by
  simp only [lent, List.getD, List.getElem?_append_right h, List.getElem?_replicate]
  rw [if_pos (by omega)]; rfl
end Go.Proofs.Ytjghcmejmdllbaa
