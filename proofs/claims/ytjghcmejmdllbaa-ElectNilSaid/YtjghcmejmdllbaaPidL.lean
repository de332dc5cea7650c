/- Processes: may one be; some in memory; when two are one; reading while one writes elsewhere. No condition. -/
import Derived.Test.YtjghcmejmdllbaaBytes
import Derived.Test.YtjghcmejmdllbaaOwn
import Derived.Laws.StructEq
namespace Go.Proofs.Ytjghcmejmdllbaa
open Go.ChangeShapes Go.WideShapes Go.ChangeAt Go.RowKit
set_option linter.unusedVariables false
set_option linter.unusedSimpArgs false
theorem own_sla {w : World} {b : Nat} {v : Value} {l : List Nat} (h : w.ownsRow b 5 1 v l.length (bv l)) (hl : l.length ≤ 1000000) : Sl w 1 l.length v (elB l) := own_sl h hl
theorem nil_bs (a : Option Addr) (n c : Nat) (w : World) : (binOp .eql 37 (.slice a n c) (.slice none 0 0)).run Try.prog w = .ok (.bool a.isNone) w := Lib.run_eql_slice_nil w 37 5 a n c 0 0 Try.underlying37
/-- May it be a process? -/
def may (i c : Nat) : Bool := decide (i < 16) && !(c == 0)
theorem may_ok (i c : Nat) (w : World) : Calls Try.prog 99 #[.agg #[.int .u16 (i : Int), .int .u32 (c : Int)]] w (Ret fun v w' => v = .bool (may i c) ∧ Below w.heap.size w w') := by
  have H := St.init w
  by_cases h : i < 16
  · have hi : (i : Int) < 16 := by omega
    go_enter Try.func99, Try.ntmps99
    go_wp2_with (first | (with_reducible refine wpl rfl (Stp.box 1 rfl rfl rfl H ?_); clear H; intro g1 w1 H; simp only [pS]; simp only [pE, nC, pS] at H) | (with_reducible refine wpl rfl (Stp.ldc rfl agg33 rfl H mR cE ?_); simp only [pS]) | (with_reducible refine wpl rfl (Stp.ldo rfl agg33 rfl H (by assumption) (by assumption) ?_); simp only [pS]) | (with_reducible refine wpl rfl (Stp.ldc rfl agg34 rfl H mR cE ?_); simp only [pS]) | (with_reducible refine wpl rfl (Stp.ldo rfl agg34 rfl H (by assumption) (by assumption) ?_); simp only [pS]))
    go_ret
    exact ⟨_, rfl, congrArg Value.bool (show ((c : Int) != 0) = may i c by rw [Bool.eq_iff_iff]; simp [may, h]), H.below⟩
  · have hd : decide ((i : Int) < 16) = false := by simp; omega
    go_enter Try.func99, Try.ntmps99
    go_wp2_with (first | (with_reducible refine wpl rfl (Stp.box 1 rfl rfl rfl H ?_); clear H; intro g1 w1 H; simp only [pS]; simp only [pE, nC, pS] at H) | (with_reducible refine wpl rfl (Stp.ldc rfl agg33 rfl H mR cE ?_); simp only [pS]) | (with_reducible refine wpl rfl (Stp.ldo rfl agg33 rfl H (by assumption) (by assumption) ?_); simp only [pS]) | (with_reducible refine wpl rfl (Stp.ldc rfl agg34 rfl H mR cE ?_); simp only [pS]) | (with_reducible refine wpl rfl (Stp.ldo rfl agg34 rfl H (by assumption) (by assumption) ?_); simp only [pS]))
    go_ret
    exact ⟨_, rfl, by simp [may, h], H.below⟩
theorem rmay_ok (i c : Nat) (w : World) : Calls Try.prog 103 #[.agg #[.int .u16 (i : Int), .int .u32 (c : Int)]] w (Ret fun v w' => v = .bool (may i c) ∧ Below w.heap.size w w') := by
  have H := St.init w
  by_cases h : i < 16
  · have hi : (i : Int) < 16 := by omega
    go_enter Try.func103, Try.ntmps103
    go_wp2_with (first | (with_reducible refine wpl rfl (Stp.box 1 rfl rfl rfl H ?_); clear H; intro g1 w1 H; simp only [pS]; simp only [pE, nC, pS] at H) | (with_reducible refine wpl rfl (Stp.ldc rfl agg33 rfl H mR cE ?_); simp only [pS]) | (with_reducible refine wpl rfl (Stp.ldo rfl agg33 rfl H (by assumption) (by assumption) ?_); simp only [pS]) | (with_reducible refine wpl rfl (Stp.ldc rfl agg34 rfl H mR cE ?_); simp only [pS]) | (with_reducible refine wpl rfl (Stp.ldo rfl agg34 rfl H (by assumption) (by assumption) ?_); simp only [pS]))
    go_ret
    exact ⟨_, rfl, congrArg Value.bool (show decide (0 < c) = may i c by rw [Bool.eq_iff_iff]; simp [may, h]; omega), H.below⟩
  · have hd : decide ((i : Int) < 16) = false := by simp; omega
    go_enter Try.func103, Try.ntmps103
    go_wp2_with (first | (with_reducible refine wpl rfl (Stp.box 1 rfl rfl rfl H ?_); clear H; intro g1 w1 H; simp only [pS]; simp only [pE, nC, pS] at H) | (with_reducible refine wpl rfl (Stp.ldc rfl agg33 rfl H mR cE ?_); simp only [pS]) | (with_reducible refine wpl rfl (Stp.ldo rfl agg33 rfl H (by assumption) (by assumption) ?_); simp only [pS]) | (with_reducible refine wpl rfl (Stp.ldc rfl agg34 rfl H mR cE ?_); simp only [pS]) | (with_reducible refine wpl rfl (Stp.ldo rfl agg34 rfl H (by assumption) (by assumption) ?_); simp only [pS]))
    go_ret
    exact ⟨_, rfl, by simp [may, h], H.below⟩
/-- What holds as long as nothing below B and nothing of L is turned. -/
def Rd (B : Nat) (w0 : World) (L : List Res) (F : World → Prop) : Prop := ∀ W : World, Below B w0 W → (∀ r ∈ L, r.2 W) → F W
theorem Rd.at {B : Nat} {w0 w : World} {L L0 : List Res} {F : World → Prop} (h : Rd B w0 L F) (H : St B w0 w L0) (hl : L.Sublist L0) : F w := h w H.below fun r hr => H.get (hl.subset hr)
theorem Rd.of_old {w0 : World} {L : List Res} {size n : Nat} {v : Value} {E : Nat → Array Value} (h : Sl w0 size n v E) : Rd w0.heap.size w0 L fun W => Sl W size n v E := fun W hb _ => h.grow hb
theorem Rd.mono {B : Nat} {w0 : World} {L L' : List Res} {F : World → Prop} (h : Rd B w0 L F) (hl : ∀ r ∈ L, r ∈ L') : Rd B w0 L' F := fun W hb hr => h W hb fun r h1 => hr r (hl r h1)
/-- Processes, as values. -/
def elQ (ps : List (Nat × Nat)) (i : Nat) : Array Value := #[.int .u16 (((ps.getD i (0, 0)).1 : Nat) : Int), .int .u32 (((ps.getD i (0, 0)).2 : Nat) : Int)]
def okPids (ps : List (Nat × Nat)) : Prop := ∀ p ∈ ps, p.1 < 65536 ∧ p.2 < 4294967296
theorem okPids_at {ps : List (Nat × Nat)} (h : okPids ps) (k : Nat) (hk : k < ps.length) : (ps.getD k (0, 0)).1 < 65536 ∧ (ps.getD k (0, 0)).2 < 4294967296 := by
  have : ps.getD k (0, 0) = ps[k] := by simp [List.getD, hk]
  rw [this]; exact h _ (List.getElem_mem hk)
/-- One of some processes. -/
theorem Sl.pid {w : World} {v : Value} {ps : List (Nat × Nat)} {k : Nat} (h : Sl w 2 ps.length v (elQ ps)) (hk : k < ps.length) : ∃ b off c, v = .slice (some ⟨b, off, none⟩) ps.length c ∧ b < w.heap.size ∧
    ∀ j, j < 2 → w.cell? ⟨b, off + k * 2 + j, none⟩ = (elQ ps k)[j]? := by
  obtain ⟨a, c, rfl, hm, hE⟩ := h
  obtain ⟨b, off, rfl, hb, hc⟩ := hE (by omega)
  exact ⟨b, off, c, rfl, hb, fun j hj => hc k hk j hj⟩
theorem eqPD (a b c d : Int) (w : World) : (Op.equalIn 10000 36 (.agg #[.int .u16 a, .int .u32 b]) (.agg #[.int .u16 c, .int .u32 d])).run Try.prog w = .ok (a == c && b == d) w := by
  have u1 := Try.underlying33
  have u2 := Try.underlying34
  have hS : Try.prog.underlying 36 = some (.struct (Try.prog.fieldsOf 36)) := by kernel_rfl
  rw [show (10000 : Nat) = 9999 + 1 from rfl, run_equalIn_struct w 9999 36 _ _ hS (by kernel_rfl)]
  simp only [Program.fieldsOf, Try.underlying36]
  go_simp
  by_cases h1 : a = c <;> by_cases h2 : b = d <;> simp [h1, h2]
theorem eqPD_self (a b : Int) (w : World) : (Op.equalIn 10000 36 (.agg #[.int .u16 a, .int .u32 b]) (.agg #[.int .u16 a, .int .u32 b])).run Try.prog w = .ok true w := by rw [eqPD]; simp
/-- Processes, as values. -/
def pv (ps : List (Nat × Nat)) : List Value := ps.flatMap fun p => [.int .u16 (p.1 : Int), .int .u32 (p.2 : Int)]
theorem pv_len (ps : List (Nat × Nat)) : (pv ps).length = ps.length * 2 := by
  induction ps with
  | nil => rfl
  | cons p ps ih => simp [pv] at ih ⊢; omega
theorem pv_snoc (ps : List (Nat × Nat)) (k : Nat) (h : k < ps.length) : pv (ps.take (k + 1)) = pv (ps.take k) ++ [.int .u16 (((ps.getD k (0, 0)).1 : Nat) : Int), .int .u32 (((ps.getD k (0, 0)).2 : Nat) : Int)] := by
  unfold pv
  rw [List.take_succ_eq_append_getElem h, List.flatMap_append]
  simp [List.getD, h]
theorem pv_get (ps : List (Nat × Nat)) : ∀ i, i < ps.length → ∀ j, j < 2 → (pv ps)[i * 2 + j]? = (elQ ps i)[j]? := by
  induction ps with
  | nil => intro i h; exact absurd h (Nat.not_lt_zero _)
  | cons p l ih =>
    intro i h j hj
    have hc : pv (p :: l) = .int .u16 (p.1 : Int) :: .int .u32 (p.2 : Int) :: pv l := by simp [pv]
    cases i with
    | zero =>
      rw [hc]
      match j, hj with
      | 0, _ => rfl
      | 1, _ => rfl
    | succ i =>
      rw [hc, show (i + 1) * 2 + j = (i * 2 + j) + 1 + 1 by omega, List.getElem?_cons_succ, List.getElem?_cons_succ, ih i (by simpa using h) j hj]
      simp [elQ]
theorem own_pv {w : World} {b : Nat} {v : Value} {ps : List (Nat × Nat)} (h : w.ownsRow b 36 2 v ps.length (pv ps)) (hl : ps.length ≤ 100000) : Sl w 2 ps.length v (elQ ps) :=
  Sl.of_ownN h (fun i hi j hj => pv_get ps i hi j hj) (by unfold maxLen; omega)
end Go.Proofs.Ytjghcmejmdllbaa
