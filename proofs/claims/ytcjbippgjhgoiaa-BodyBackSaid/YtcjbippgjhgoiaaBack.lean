/- A process that was laid is read as it was. No condition but widths. -/
import Derived.Test.YtcjbippgjhgoiaaPid2
namespace Go.Proofs.Ytcjbippgjhgoiaa
open Go.ChangeShapes Go.WideShapes Go.ChangeAt Go.RowKit
set_option linter.unusedVariables false
set_option linter.unusedSimpArgs false
theorem getP_back (i c : Nat) (hi : i < 65536) (hc : c < 4294967296) (t : List Nat) : getP (pidB i c ++ t) = (i, c, (pidB i c).length, 0) := by
  have h1 := gs_back i (by omega) (shortB c ++ t)
  have h2 := gs_back c (by omega) t
  have e : pidB i c ++ t = shortB i ++ (shortB c ++ t) := by rw [pidB, List.append_assoc]
  unfold getP
  rw [e, h1]
  simp only [List.drop_left]
  rw [h2, if_neg (by simp), if_neg (by simp), if_neg (by omega)]
  rw [pidB, List.length_append]
end Go.Proofs.Ytcjbippgjhgoiaa
