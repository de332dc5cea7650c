/- Processes and their ids as keys of maps; which stand first, which rise; no condition. -/
import Derived.Test.YtjghcmejmdllbaaVw5
namespace Go.Proofs.Ytjghcmejmdllbaa
open Go.ChangeShapes Go.WideShapes Go.ChangeAt Go.RowKit Go.Maps
set_option linter.unusedVariables false
set_option linter.unusedSimpArgs false
theorem mz184 : ∀ W : World, (zeroValue 184).run Try.prog W = .ok (.agg #[]) W := fun _ => by kernel_rfl
theorem mz3 : ∀ W : World, (zeroValue 3).run Try.prog W = .ok (.int .i64 0) W := fun _ => by kernel_rfl
theorem own : ownKnob Try.prog.godebug = none := by kernel_rfl
theorem laidOut : laidOutB Try.prog = true := by kernel_rfl
abbrev ekP (p : Pr) : Value := .agg #[.int .u16 (p.1 : Int), .int .u32 (p.2 : Int)]
abbrev ekI (n : Nat) : Value := .int .u16 (n : Int)
abbrev evN (n : Nat) : Value := .int .i64 (n : Int)
abbrev evU (_ : Unit) : Value := .agg #[]
theorem ekP_inj : ∀ x y : Pr, ekP x = ekP y → x = y := by
  rintro ⟨a, b⟩ ⟨c, d⟩ h
  simp only [ekP, Value.agg.injEq, Array.mk.injEq, List.cons.injEq, Value.int.injEq, true_and, and_true] at h
  obtain ⟨h1, h2⟩ := h
  have e1 : a = c := by omega
  have e2 : b = d := by omega
  rw [e1, e2]
theorem ekI_inj : ∀ x y : Nat, ekI x = ekI y → x = y := by
  intro x y h
  simp only [ekI, Value.int.injEq, true_and] at h
  omega
theorem keyedP : Keyed Try.prog 36 := Keyed.of_law (deep_law_laid laidOut (m := 5) (by decide) (of_decide_eq_true (by kernel_rfl)) (by kernel_rfl) (by kernel_rfl))
theorem keyedI : Keyed Try.prog 33 := int_keyed Try.underlying33
theorem keyI (n : Nat) (h : n < 65536) : ∃ l, keyOf Try.prog 33 (ekI n) = some l := ⟨_, keyOf_int_mk Try.underlying33 (WalkArith.wf_u16 ⟨by omega, by omega⟩)⟩
theorem klU16 (d : Nat) (a : Nat) (h : a < 65536) : Try.prog.keyLits (d + 1) 33 [.int .u16 (a : Int)] = some [.int .u16 (a : Int)] := by
  have : (Lit.int .u16 (a : Int)).wf = true := WalkArith.wf_u16 ⟨by omega, by omega⟩
  unfold Program.keyLits
  simp only [Try.underlying33, this, and_self, if_true]
theorem klU32 (d : Nat) (a : Nat) (h : a < 4294967296) : Try.prog.keyLits (d + 1) 34 [.int .u32 (a : Int)] = some [.int .u32 (a : Int)] := by
  have : (Lit.int .u32 (a : Int)).wf = true := WalkArith.wf_u32 ⟨by omega, by omega⟩
  unfold Program.keyLits
  simp only [Try.underlying34, this, and_self, if_true]
theorem klP (d a b : Nat) (ha : a < 65536) (hb : b < 4294967296) : Try.prog.keyLits (d + 1 + 1) 36 [.int .u16 (a : Int), .int .u32 (b : Int)] = some [.int .u16 (a : Int), .int .u32 (b : Int)] := by
  have hc : Try.prog.cellsOf 36 = 2 := by kernel_rfl
  have hc1 : Try.prog.cellsOf 33 = 1 := by kernel_rfl
  have hc2 : Try.prog.cellsOf 34 = 1 := by kernel_rfl
  have h1 := klU16 d a ha
  have h2 := klU32 d b hb
  unfold Program.keyLits
  simp only [Try.underlying36, hc]
  rw [if_pos ⟨rfl, by kernel_rfl⟩]
  simp only [List.mapM_cons, List.mapM_nil, hc1, hc2, List.drop_zero, List.drop_succ_cons, List.take_succ_cons, List.take_zero, h1, h2]
  rfl
theorem keyP (p : Pr) (ha : p.1 < 65536) (hb : p.2 < 4294967296) : ∃ l, keyOf Try.prog 36 (ekP p) = some l := by
  have hk : Try.prog.keyType 36 = true := by kernel_rfl
  have hc : Try.prog.cellsOf 36 = 2 := by kernel_rfl
  obtain ⟨n, hn⟩ : ∃ n, Try.prog.types.size + 1 = n + 1 + 1 := ⟨Try.prog.types.size - 1, by kernel_rfl⟩
  have h1 := klP n p.1 p.2 ha hb
  refine ⟨.string (keyBytes [.int .u16 (p.1 : Int), .int .u32 (p.2 : Int)]), ?_⟩
  unfold keyOf
  simp only [Try.underlying36, hk, ekP, Value.formed, hc, Value.cells, hn, h1]
  rfl
/-- A map that was there stays. -/
theorem MapAt.grow {α β : Type} {P : Program} {k : TypeId} {ek : α → Value} {ev : β → Value} {w w' : World} {b : Nat} {M : List (α × β)} (h : MapAt P k ek ev b M w) (hb : Below w.heap.size w w') : MapAt P k ek ev b M w' := by
  obtain ⟨es, clock, h1, h2⟩ := h
  exact ⟨es, clock, (hb.block b (Array.getElem?_eq_some_iff.1 h1).1).trans h1, h2⟩
section
variable {α β : Type} [DecidableEq α] {P : Program} {ops : Array Oper} {k e t : TypeId} {ek : α → Value} {ev : β → Value} {a : Act} {w : World} {o : Oper} {N : Act → World → Prop} {M : List (α × β)} {b : Nat} {x y : Operand} {q : α} {l : Lit}
/-- A look-up in a map that is known now. -/
theorem Stp.lookokF (ho : o.op = .lookup t x y true) (K : Keyed P k) (hi : ∀ x y, ek x = ek y → x = y) (ht : P.underlying t = some (.map k e)) {z : Value} (hz : ∀ W : World, (zeroValue e).run P W = .ok z W) (hx : a.eval x = .map (some b)) (hy : a.eval y = ek q) (ha : keyOf P k (ek q) = some l)
    (hm : MapAt P k ek ev b M w) (h : N (a.put o.dst (.tuple #[((mget M q).map ev).getD z, .bool (mget M q).isSome])) w) : Stp P o a w N := by
  refine ⟨w, .inl ⟨_, ?_, h⟩⟩
  unfold execOp; simp only [ho, hx, hy]
  simp [run_look true K hi ht (hz w) hm ha]
theorem Stp.lookF (ho : o.op = .lookup t x y false) (K : Keyed P k) (hi : ∀ x y, ek x = ek y → x = y) (ht : P.underlying t = some (.map k e)) {z : Value} (hz : ∀ W : World, (zeroValue e).run P W = .ok z W) (hx : a.eval x = .map (some b)) (hy : a.eval y = ek q) (ha : keyOf P k (ek q) = some l)
    (hm : MapAt P k ek ev b M w) (h : N (a.put o.dst (((mget M q).map ev).getD z)) w) : Stp P o a w N := by
  refine ⟨w, .inl ⟨_, ?_, h⟩⟩
  unfold execOp; simp only [ho, hx, hy]
  simp [run_look false K hi ht (hz w) hm ha]
end
/-! ### First places, and who rises -/
def rank : List Pr → Pr → Option Nat
  | [], _ => none
  | x :: l, p => if x = p then some 0 else (rank l p).map (· + 1)
theorem rank_none {l : List Pr} {p : Pr} : rank l p = none ↔ p ∉ l := by
  induction l with
  | nil => simp [rank]
  | cons x l ih =>
    unfold rank
    by_cases h : x = p
    · simp [h]
    · rw [if_neg h, Option.map_eq_none_iff, ih, List.mem_cons, not_or]
      exact ⟨fun h1 => ⟨fun e => h e.symm, h1⟩, fun h1 => h1.2⟩
theorem rank_lt {l : List Pr} {p : Pr} {k : Nat} (h : rank l p = some k) : ∃ hk : k < l.length, l[k] = p := by
  induction l generalizing k with
  | nil => cases h
  | cons x l ih =>
    unfold rank at h
    by_cases hx : x = p
    · rw [if_pos hx] at h
      injection h with h
      subst h
      exact ⟨by simp, hx⟩
    · rw [if_neg hx] at h
      obtain ⟨j, hj, rfl⟩ := Option.map_eq_some_iff.1 h
      obtain ⟨h1, h2⟩ := ih hj
      exact ⟨by simpa using h1, by simpa using h2⟩
theorem rank_snoc (l : List Pr) (x p : Pr) : rank (l ++ [x]) p = match rank l p with | some k => some k | none => if x = p then some l.length else none := by
  induction l with
  | nil => simp [rank]
  | cons y l ih =>
    simp only [List.cons_append, rank]
    by_cases h : y = p
    · simp [h]
    · rw [if_neg h, if_neg h, ih]
      cases rank l p with
      | some k => rfl
      | none => by_cases h2 : x = p <;> simp [h2]
/-- Do the places rise, from one on? -/
def risA (m : List Pr) : Int → List Pr → Bool
  | _, [] => true
  | last, p :: r => match rank m p with
    | none => false
    | some k => decide (last < (k : Int)) && risA m k r
def risB (m l : List Pr) : Bool := risA m (-1) l
/-- May these be members? -/
def memOk (m : List Pr) : Bool := (m.all fun p => may p.1 p.2) && decide ((m.map (·.1)).Nodup) && decide (0 < m.length) && decide (m.length ≤ 24)
end Go.Proofs.Ytjghcmejmdllbaa
