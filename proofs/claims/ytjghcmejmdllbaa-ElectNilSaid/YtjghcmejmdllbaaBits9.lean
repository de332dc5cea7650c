/- Contracts of layer 1's Get and of its reference Number; the bounds on lengths stand in each. -/
import Derived.Test.YtjghcmejmdllbaaBits3
import Derived.Laws.BitsLemmas
import Derived.Laws.Bits64b
namespace Go.Proofs.Ytjghcmejmdllbaa
open Go.ChangeShapes Go.WideShapes Go.ChangeAt Go.RowKit
set_option linter.unusedVariables false
set_option linter.unusedSimpArgs false
/-- The number whose form bytes are. -/
def numB (l : List Nat) : Nat := l.foldl (fun a c => a * 256 + c) 0
theorem numB_snoc (l : List Nat) (c : Nat) : numB (l ++ [c]) = numB l * 256 + c := by simp [numB, List.foldl_append]
theorem foldl_lt (l : List Nat) : ∀ (a m : Nat), a < 256 ^ m → (∀ x ∈ l, x < 256) → l.foldl (fun a c => a * 256 + c) a < 256 ^ (m + l.length) := by
  induction l with
  | nil => intro a m h _; simpa using h
  | cons c l ih =>
    intro a m h hx
    have hc : c < 256 := hx c List.mem_cons_self
    have := ih (a * 256 + c) (m + 1) (by rw [Nat.pow_succ]; omega) (fun x hm => hx x (List.mem_cons_of_mem _ hm))
    simpa [Nat.add_assoc, Nat.add_comm 1] using this
theorem numB_lt (l : List Nat) (h : ∀ x ∈ l, x < 256) : numB l < 256 ^ l.length := by
  have := foldl_lt l 0 0 (by simp) h
  simpa [numB] using this
theorem numB_small (l : List Nat) (h : ∀ x ∈ l, x < 256) (h8 : l.length ≤ 8) : numB l < 18446744073709551616 := by
  refine Nat.lt_of_lt_of_le (numB_lt l h) ?_
  have h1 : (256 : Nat) ^ l.length ≤ 256 ^ 8 := Nat.pow_le_pow_right (by omega) h8
  have h2 : (256 : Nat) ^ 8 = 18446744073709551616 := by decide +kernel
  rw [h2] at h1
  exact h1
theorem or_byte (x c : Nat) (hx : x * 256 + c < 18446744073709551616) (hc : c < 256) : bits .or .u64 ((x : Int) * 256) (c : Int) = ((x * 256 + c : Nat) : Int) := by
  have h1 : x * 256 < 18446744073709551616 := Nat.lt_of_le_of_lt (Nat.le_add_right _ _) hx
  have h2 : c < 18446744073709551616 := Nat.lt_of_le_of_lt (Nat.le_add_left _ _) hx
  have h := bits_or_u64_nat (x * 256) c h1 h2
  rw [show (x * 256 ||| c) = x * 256 + c by
    have := Nat.two_pow_add_eq_or_of_lt (i := 8) (b := c) (by simpa using hc) x
    rw [Nat.mul_comm x 256]; exact this.symm] at h
  exact h
theorem getD_byte {l : List Nat} (h : ∀ x ∈ l, x < 256) (k : Nat) : l.getD k 0 < 256 := by
  by_cases hk : k < l.length
  · have : l.getD k 0 = l[k] := by simp [List.getD, hk]
    rw [this]; exact h _ (List.getElem_mem hk)
  · simp [List.getD, List.getElem?_eq_none (by omega : l.length ≤ k)]
end Go.Proofs.Ytjghcmejmdllbaa
