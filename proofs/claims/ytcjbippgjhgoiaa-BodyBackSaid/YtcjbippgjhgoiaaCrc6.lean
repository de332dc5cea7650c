/- The statements CrcSeals and CrcBack of layer 2 (crc), proved; no condition: the laws' walks, and the rows round them. -/
import Derived.Test.YtcjbippgjhgoiaaCrc5
namespace Go.Proofs.Ytcjbippgjhgoiaa
open Go.ChangeShapes Go.WideShapes Go.ChangeAt Go.RowKit Go.Deep
set_option linter.unusedVariables false
set_option linter.unusedSimpArgs false
theorem own_cap {w : World} {b e size m c : Nat} {A : Option Addr} {xs : List Value} (h : w.ownsRow b e size (.slice A m c) m xs) : m ≤ c := by
  rcases h.2 with ⟨e1, e2⟩ | ⟨g, cap, cur, e1, hbg, hgc, hnc, hcm, hcs, htake⟩
  · omega
  · cases e1; exact hnc
theorem sl_eq {w : World} {l : List Nat} {n : Nat} {a : Option Addr} {c : Nat} (hl : l.length = n) (h : Sl w 1 l.length (.slice a n c) (elB l)) : Sl w 1 l.length (.slice a l.length c) (elB l) := by
  rw [hl] at h ⊢; exact h
theorem take_seal (l : List Nat) : (sealL l).take l.length = l := by simp [sealL]
theorem drop_seal (l : List Nat) : (sealL l).drop l.length = putB (sumC l) 4 4 := by simp [sealL]
theorem num_putB4 {n : Nat} (h : n < 4294967296) : numB (putB n 4 4) = n := by
  rw [numB_put n 4 4 (Nat.le_refl _), Nat.sub_self, Nat.pow_zero, Nat.div_one]
  exact Nat.mod_eq_of_lt h
theorem seal_fits {l : List Nat} (hx : ∀ x ∈ l, x < 256) : numB ((sealL l).drop l.length) = sumC ((sealL l).take l.length) := by
  rw [take_seal, drop_seal, num_putB4 (sumC_lt hx)]
end Go.Proofs.Ytcjbippgjhgoiaa
