/- Contracts whose result is named by a letter: short forms and processes laid; the bounds stand in each. -/
import Derived.Test.YtcjbippgjhgoiaaPid2
namespace Go.Proofs.Ytcjbippgjhgoiaa
open Go.ChangeShapes Go.WideShapes Go.ChangeAt Go.RowKit
set_option linter.unusedVariables false
set_option linter.unusedSimpArgs false
theorem own_sla {w : World} {b : Nat} {v : Value} {l : List Nat} (h : w.ownsRow b 5 1 v l.length (bv l)) (hl : l.length ≤ 1000000) : Sl w 1 l.length v (elB l) := own_sl h hl
/-! Contracts whose result is named. -/
theorem pput_as (v : Value) (l r : List Nat) (hl : l.length ≤ 800000) (i c : Nat) (hi : i < 65536) (hc : c < 4294967296) (hr : l ++ pidB i c = r) (w : World) (hs : Sl w 1 l.length v (elB l)) :
    Calls Try.prog 51 #[v, .agg #[.int .u16 (i : Int), .int .u32 (c : Int)]] w (Ret fun v' w' => (∃ ap cp, v' = .slice ap r.length cp) ∧ w'.ownsRow w.heap.size 5 1 v' r.length (bv r) ∧ Below w.heap.size w w') := by
  subst hr; exact pput_ok v l hl i c hi hc w hs
theorem rpput_as (r : List Nat) (i c : Nat) (hi : i < 65536) (hc : c < 4294967296) (hr : pidB i c = r) (w : World) :
    Calls Try.prog 42 #[.agg #[.int .u16 (i : Int), .int .u32 (c : Int)]] w (Ret fun v' w' => (∃ ap cp, v' = .slice ap r.length cp) ∧ w'.ownsRow w.heap.size 5 1 v' r.length (bv r) ∧ Below w.heap.size w w') := by
  subst hr; exact rpput_ok i c hi hc w
theorem putshort_as (v : Value) (l r : List Nat) (n : Nat) (hn : n < 18446744073709551616) (hl : l.length ≤ 900000) (hr : l ++ shortB n = r) (w : World) (hs : Sl w 1 l.length v (elB l)) :
    Calls Try.prog 50 #[v, .int .u64 (n : Int)] w (Ret fun v' w' => (∃ ap cp, v' = .slice ap r.length cp) ∧ w'.ownsRow w.heap.size 5 1 v' r.length (bv r) ∧ Below w.heap.size w w') := by
  subst hr; exact putshort_ok v l n hn hl w hs
theorem rshort_as (r : List Nat) (n : Nat) (hn : n < 18446744073709551616) (hr : shortB n = r) (w : World) :
    Calls Try.prog 56 #[.int .u64 (n : Int)] w (Ret fun v' w' => (∃ ap cp, v' = .slice ap r.length cp) ∧ w'.ownsRow w.heap.size 5 1 v' r.length (bv r) ∧ Below w.heap.size w w') := by
  subst hr; exact rshort_ok n hn w
theorem nil_sl (w : World) : Sl w 1 ([] : List Nat).length (.slice none 0 0) (elB []) := ⟨_, _, rfl, by simp [maxLen], fun h => absurd h (Nat.lt_irrefl _)⟩
end Go.Proofs.Ytcjbippgjhgoiaa
