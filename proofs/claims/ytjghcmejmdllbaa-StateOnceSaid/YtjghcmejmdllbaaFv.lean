/- Structs of one size as values of a slice; plain. -/
import Derived.Test.YtjghcmejmdllbaaBase
namespace Go.Proofs.Ytjghcmejmdllbaa
set_option linter.unusedVariables false
set_option linter.unusedSimpArgs false
def fv {α : Type} (f : α → Array Value) (l : List α) : List Value := l.flatMap fun a => (f a).toList
section
variable {α : Type} {f : α → Array Value} {s : Nat}
theorem fv_cons (a : α) (l : List α) : fv f (a :: l) = (f a).toList ++ fv f l := by simp [fv]
theorem fv_len (hs : ∀ a, (f a).size = s) (l : List α) : (fv f l).length = l.length * s := by
  induction l with
  | nil => simp [fv]
  | cons a l ih => rw [fv_cons, List.length_append, ih, List.length_cons, Array.length_toList, hs, Nat.succ_mul, Nat.add_comm]
theorem fv_app (l m : List α) : fv f (l ++ m) = fv f l ++ fv f m := by unfold fv; rw [List.flatMap_append]
theorem fv_one (a : α) : fv f [a] = (f a).toList := by simp [fv]
theorem fv_get (hs : ∀ a, (f a).size = s) (l : List α) : ∀ (k : Nat) (a : α), l[k]? = some a → ∀ j, j < s → (fv f l)[k * s + j]? = (f a)[j]? := by
  induction l with
  | nil => intro k a h; cases h
  | cons b l ih =>
    intro k a h j hj
    rw [fv_cons]
    cases k with
    | zero =>
      have : b = a := by simpa using h
      subst this
      rw [Nat.zero_mul, Nat.zero_add, List.getElem?_append_left (by rw [Array.length_toList, hs]; exact hj)]
      simp
    | succ k =>
      have e : (k + 1) * s + j = s + (k * s + j) := by rw [Nat.succ_mul]; omega
      rw [List.getElem?_append_right (by rw [Array.length_toList, hs]; omega), e, Array.length_toList, hs, Nat.add_sub_cancel_left]
      exact ih k a (by simpa using h) j hj
end
end Go.Proofs.Ytjghcmejmdllbaa
