/- Some processes in memory, and reading while one writes elsewhere; no condition. -/
import Derived.Test.YtcjbippgjhgoiaaAs
namespace Go.Proofs.Ytcjbippgjhgoiaa
open Go.ChangeShapes Go.WideShapes Go.ChangeAt Go.RowKit
set_option linter.unusedVariables false
set_option linter.unusedSimpArgs false
/-- What holds as long as nothing below B and nothing of L is turned. -/
def Rd (B : Nat) (w0 : World) (L : List Res) (F : World → Prop) : Prop := ∀ W : World, Below B w0 W → (∀ r ∈ L, r.2 W) → F W
theorem Rd.at {B : Nat} {w0 w : World} {L L0 : List Res} {F : World → Prop} (h : Rd B w0 L F) (H : St B w0 w L0) (hl : L.Sublist L0) : F w := h w H.below fun r hr => H.get (hl.subset hr)
theorem Rd.of_old {w0 : World} {L : List Res} {size n : Nat} {v : Value} {E : Nat → Array Value} (h : Sl w0 size n v E) : Rd w0.heap.size w0 L fun W => Sl W size n v E := fun W hb _ => h.grow hb
theorem Rd.mono {B : Nat} {w0 : World} {L L' : List Res} {F : World → Prop} (h : Rd B w0 L F) (hl : ∀ r ∈ L, r ∈ L') : Rd B w0 L' F := fun W hb hr => h W hb fun r h1 => hr r (hl r h1)
theorem Sl.cell {w : World} {size n b off c : Nat} {E : Nat → Array Value} (h : Sl w size n (.slice (some ⟨b, off, none⟩) n c) E) {i : Nat} (hi : i < n) : ∀ j, j < size → w.cell? ⟨b, off + i * size + j, none⟩ = (E i)[j]? := by
  obtain ⟨a, c', e, hm, hE⟩ := h
  injection e with e1 e2 e3
  obtain ⟨b', off', e4, hb, hc⟩ := hE (by omega)
  rw [← e1] at e4
  cases e4
  exact fun j hj => hc i hi j hj
theorem Sl.addr {w : World} {size n c : Nat} {a : Option Addr} {E : Nat → Array Value} (h : Sl w size n (.slice a n c) E) (hn : 0 < n) : ∃ b off, a = some ⟨b, off, none⟩ ∧ b < w.heap.size := by
  obtain ⟨a', c', e, hm, hE⟩ := h
  injection e with e1 e2 e3
  obtain ⟨b', off', e4, hb, hc⟩ := hE hn
  exact ⟨b', off', e1.trans e4, hb⟩
section
variable {P : Program} {ops : Array Oper} {a : Act} {w : World} {o : Oper} {N : Act → World → Prop}
/-- A struct loaded whose cells are known now. -/
theorem Stp.ldq {ty : TypeId} {x : Operand} {b off n : Nat} {cs : Array Value} (ho : o.op = .load ty x) (hagg : ∀ W : World, (isAgg ty).run P W = .ok true W) (hs : ∀ W : World, (sizeOf ty).run P W = .ok n W) (hx : a.eval x = .pointer (some ⟨b, off, none⟩))
    (hc : ∀ j, j < n → w.cell? ⟨b, off + j, none⟩ = cs[j]?) (hn : cs.size = n) (h : N (a.put o.dst (.agg cs)) w) : Stp P o a w N := by
  refine ⟨w, .inl ⟨_, ?_, h⟩⟩
  subst hn
  unfold execOp; simp only [ho, hx, Instr.loadAt, Instr.sureAddr]
  simp [run_load_range hc hagg hs]
/-- A cell loaded that is known now. -/
theorem Stp.ldq1 {ty : TypeId} {x : Operand} {b off : Nat} {v : Value} (ho : o.op = .load ty x) (hagg : ∀ W : World, (isAgg ty).run P W = .ok false W) (hx : a.eval x = .pointer (some ⟨b, off, none⟩)) (hc : w.cell? ⟨b, off, none⟩ = some v) (h : N (a.put o.dst v) w) : Stp P o a w N := by
  refine ⟨w, .inl ⟨v, ?_, h⟩⟩
  unfold execOp; simp only [ho, hx, Instr.loadAt, Instr.sureAddr]
  simp [loadVar, hagg, hc]
end
/-- Processes, as values; their bytes. -/
def elQ (ps : List (Nat × Nat)) (i : Nat) : Array Value := #[.int .u16 (((ps.getD i (0, 0)).1 : Nat) : Int), .int .u32 (((ps.getD i (0, 0)).2 : Nat) : Int)]
def pidsB (ps : List (Nat × Nat)) : List Nat := ps.flatMap fun p => pidB p.1 p.2
def okPids (ps : List (Nat × Nat)) : Prop := ∀ p ∈ ps, p.1 < 65536 ∧ p.2 < 4294967296
theorem pidsB_snoc (ps : List (Nat × Nat)) (k : Nat) (h : k < ps.length) : pidsB (ps.take (k + 1)) = pidsB (ps.take k) ++ pidB (ps.getD k (0, 0)).1 (ps.getD k (0, 0)).2 := by
  unfold pidsB
  rw [List.take_succ_eq_append_getElem h, List.flatMap_append]
  simp [List.getD, h]
theorem pidsB_len (ps : List (Nat × Nat)) : (pidsB ps).length ≤ 20 * ps.length := by
  unfold pidsB
  induction ps with
  | nil => simp
  | cons p ps ih =>
    have := pidB_len p.1 p.2
    simp only [List.flatMap_cons, List.length_append, List.length_cons]
    omega
theorem okPids_at {ps : List (Nat × Nat)} (h : okPids ps) (k : Nat) (hk : k < ps.length) : (ps.getD k (0, 0)).1 < 65536 ∧ (ps.getD k (0, 0)).2 < 4294967296 := by
  have : ps.getD k (0, 0) = ps[k] := by simp [List.getD, hk]
  rw [this]; exact h _ (List.getElem_mem hk)
/-- One of some processes. -/
theorem Sl.pid {w : World} {v : Value} {ps : List (Nat × Nat)} {k : Nat} (h : Sl w 2 ps.length v (elQ ps)) (hk : k < ps.length) : ∃ b off c, v = .slice (some ⟨b, off, none⟩) ps.length c ∧ b < w.heap.size ∧
    ∀ j, j < 2 → w.cell? ⟨b, off + k * 2 + j, none⟩ = (elQ ps k)[j]? := by
  obtain ⟨a, c, rfl, hm, hE⟩ := h
  obtain ⟨b, off, rfl, hb, hc⟩ := hE (by omega)
  exact ⟨b, off, c, rfl, hb, fun j hj => hc k hk j hj⟩
end Go.Proofs.Ytcjbippgjhgoiaa
