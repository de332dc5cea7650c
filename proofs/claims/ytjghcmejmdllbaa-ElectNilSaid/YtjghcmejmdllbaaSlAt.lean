/- A slice that is only read: its address, an element's cells; loads of what is known now. No condition. -/
import Derived.Test.YtjghcmejmdllbaaBase
namespace Go.Proofs.Ytjghcmejmdllbaa
open Go.ChangeShapes Go.WideShapes Go.ChangeAt Go.RowKit
set_option linter.unusedVariables false
set_option linter.unusedSimpArgs false
theorem Sl.cell {w : World} {size n b off c : Nat} {E : Nat → Array Value} (h : Sl w size n (.slice (some ⟨b, off, none⟩) n c) E) {i : Nat} (hi : i < n) : ∀ j, j < size → w.cell? ⟨b, off + i * size + j, none⟩ = (E i)[j]? := by
  obtain ⟨a, c', e, hm, hE⟩ := h
  injection e with e1 e2 e3
  obtain ⟨b', off', e4, hb, hc⟩ := hE (by omega)
  rw [← e1] at e4
  cases e4
  exact fun j hj => hc i hi j hj
theorem Sl.addr {w : World} {size n c : Nat} {a : Option Addr} {E : Nat → Array Value} (h : Sl w size n (.slice a n c) E) (hn : 0 < n) : ∃ b off, a = some ⟨b, off, none⟩ ∧ b < w.heap.size := by
  obtain ⟨a', c', e, hm, hE⟩ := h
  injection e with e1 e2 e3
  obtain ⟨b', off', e4, hb, hc⟩ := hE hn
  exact ⟨b', off', e1.trans e4, hb⟩
section
variable {P : Program} {ops : Array Oper} {a : Act} {w : World} {o : Oper} {N : Act → World → Prop}
/-- A struct loaded whose cells are known now. -/
theorem Stp.ldq {ty : TypeId} {x : Operand} {b off n : Nat} {cs : Array Value} (ho : o.op = .load ty x) (hagg : ∀ W : World, (isAgg ty).run P W = .ok true W) (hs : ∀ W : World, (sizeOf ty).run P W = .ok n W) (hx : a.eval x = .pointer (some ⟨b, off, none⟩))
    (hc : ∀ j, j < n → w.cell? ⟨b, off + j, none⟩ = cs[j]?) (hn : cs.size = n) (h : N (a.put o.dst (.agg cs)) w) : Stp P o a w N := by
  refine ⟨w, .inl ⟨_, ?_, h⟩⟩
  subst hn
  unfold execOp; simp only [ho, hx, Instr.loadAt, Instr.sureAddr]
  simp [run_load_range hc hagg hs]
/-- A cell loaded that is known now. -/
theorem Stp.ldq1 {ty : TypeId} {x : Operand} {b off : Nat} {v : Value} (ho : o.op = .load ty x) (hagg : ∀ W : World, (isAgg ty).run P W = .ok false W) (hx : a.eval x = .pointer (some ⟨b, off, none⟩)) (hc : w.cell? ⟨b, off, none⟩ = some v) (h : N (a.put o.dst v) w) : Stp P o a w N := by
  refine ⟨w, .inl ⟨v, ?_, h⟩⟩
  unfold execOp; simp only [ho, hx, Instr.loadAt, Instr.sureAddr]
  simp [loadVar, hagg, hc]
end
end Go.Proofs.Ytjghcmejmdllbaa
