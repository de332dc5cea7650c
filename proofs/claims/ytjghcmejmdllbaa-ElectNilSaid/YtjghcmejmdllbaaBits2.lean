/- Contracts of layer 1's Put and its references; the bounds on lengths stand in each. -/
import Derived.Test.YtjghcmejmdllbaaBits1
namespace Go.Proofs.Ytjghcmejmdllbaa
open Go.ChangeShapes Go.WideShapes Go.ChangeAt Go.RowKit
set_option linter.unusedVariables false
set_option linter.unusedSimpArgs false
/-- The first k bytes of n's form of W bytes. -/
def putB (n : Nat) (W k : Nat) : List Nat := (List.range k).map fun j => n / 256 ^ (W - 1 - j) % 256
theorem putB_len (n W k : Nat) : (putB n W k).length = k := by simp [putB]
theorem putB_succ (n W k : Nat) : putB n W (k + 1) = putB n W k ++ [n / 256 ^ (W - 1 - k) % 256] := by simp [putB, List.range_succ]
theorem byte_at (n m : Nat) : (n : Int) / 2 ^ (8 * m) % 256 = ((n / 256 ^ m % 256 : Nat) : Int) := by
  have h : (256 : Nat) ^ m = 2 ^ (8 * m) := by rw [Nat.pow_mul]
  rw [h, Int.natCast_emod, Int.natCast_ediv, Int.natCast_pow]; rfl
end Go.Proofs.Ytjghcmejmdllbaa
