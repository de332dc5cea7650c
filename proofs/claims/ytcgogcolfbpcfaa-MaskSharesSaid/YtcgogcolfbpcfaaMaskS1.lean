/- The contract of layer 5's Shares (mask); the bounds stand in it. -/
import Derived.Test.YtcgogcolfbpcfaaOwn
import Derived.Test.YtcgogcolfbpcfaaMask5
namespace Go.Proofs.Ytcgogcolfbpcfaa
open Go.ChangeShapes Go.WideShapes Go.ChangeAt Go.RowKit Go.Deep Go.Maps
set_option linter.unusedVariables false
set_option linter.unusedSimpArgs false
theorem mz3 : ∀ W : World, (zeroValue 3).run Try.prog W = .ok (.int .i64 0) W := fun _ => by kernel_rfl
/-! ### Which are there, in their order -/
section
variable {α : Type} [DecidableEq α]
def ddA (acc l : List α) : List α := l.foldl (fun acc x => if x ∈ acc then acc else acc ++ [x]) acc
def dd (l : List α) : List α := ddA [] l
theorem dd_snoc (l : List α) (x : α) : dd (l ++ [x]) = if x ∈ dd l then dd l else dd l ++ [x] := by
  unfold dd ddA; rw [List.foldl_append]; rfl
theorem mem_ddA (l : List α) : ∀ (acc : List α) (x : α), x ∈ ddA acc l ↔ x ∈ acc ∨ x ∈ l := by
  induction l with
  | nil => intro acc x; simp [ddA]
  | cons y l ih =>
    intro acc x
    have : ddA acc (y :: l) = ddA (if y ∈ acc then acc else acc ++ [y]) l := rfl
    rw [this, ih]
    by_cases h : y ∈ acc
    · rw [if_pos h, List.mem_cons]
      constructor
      · rintro (h1 | h1)
        · exact .inl h1
        · exact .inr (.inr h1)
      · rintro (h1 | rfl | h1)
        · exact .inl h1
        · exact .inl h
        · exact .inr h1
    · rw [if_neg h]
      simp only [List.mem_append, List.mem_cons, List.not_mem_nil, or_false, or_assoc]
theorem mem_dd (l : List α) (x : α) : x ∈ dd l ↔ x ∈ l := by unfold dd; rw [mem_ddA]; simp
theorem ddA_pre (l : List α) : ∀ acc : List α, acc <+: ddA acc l := by
  induction l with
  | nil => intro acc; exact List.prefix_refl _
  | cons y l ih =>
    intro acc
    have : ddA acc (y :: l) = ddA (if y ∈ acc then acc else acc ++ [y]) l := rfl
    rw [this]
    refine List.IsPrefix.trans ?_ (ih _)
    split
    · exact List.prefix_refl _
    · exact List.prefix_append _ _
theorem dd_pre (a b : List α) : dd a <+: dd (a ++ b) := by
  unfold dd
  have : ddA [] (a ++ b) = ddA (ddA [] a) b := by unfold ddA; rw [List.foldl_append]
  rw [this]
  exact ddA_pre _ _
theorem dd_nodup (l : List α) : ∀ acc : List α, acc.Nodup → (ddA acc l).Nodup := by
  induction l with
  | nil => intro acc h; exact h
  | cons y l ih =>
    intro acc h
    have : ddA acc (y :: l) = ddA (if y ∈ acc then acc else acc ++ [y]) l := rfl
    rw [this]
    refine ih _ ?_
    split
    · exact h
    · rename_i hy
      rw [List.nodup_append]
      exact ⟨h, by simp, fun a ha b hb e => by rw [List.mem_singleton] at hb; subst hb; exact hy (e ▸ ha)⟩
theorem dd_len (l : List α) : ∀ acc : List α, (ddA acc l).length ≤ acc.length + l.length := by
  induction l with
  | nil => intro acc; simp [ddA]
  | cons y l ih =>
    intro acc
    have : ddA acc (y :: l) = ddA (if y ∈ acc then acc else acc ++ [y]) l := rfl
    rw [this]
    by_cases hy : y ∈ acc
    · rw [if_pos hy, List.length_cons]
      have := ih acc
      omega
    · rw [if_neg hy, List.length_cons]
      have := ih (acc ++ [y])
      rw [List.length_append, List.length_singleton] at this
      omega
theorem idx_none (D : List α) (x : α) (h : x ∉ D) : mget D.zipIdx x = none := by
  rw [mget_none]
  intro p hp e
  have := List.mem_zipIdx_iff_getElem?.1 hp
  exact h (e ▸ List.mem_of_getElem? this)
theorem idx_some (D : List α) (x : α) (h : x ∈ D) : ∃ j, mget D.zipIdx x = some j ∧ D[j]? = some x := by
  cases hg : mget D.zipIdx x with
  | none =>
    obtain ⟨j, hj⟩ := List.mem_iff_getElem?.1 h
    exact absurd rfl (mget_none.1 hg (x, j) (List.mem_zipIdx_iff_getElem?.2 hj))
  | some j => exact ⟨j, rfl, List.mem_zipIdx_iff_getElem?.1 (mget_mem hg)⟩
theorem idx_put (D : List α) (x : α) (h : x ∉ D) : mput D.zipIdx x D.length = (D ++ [x]).zipIdx := by
  rw [mput_new (idx_none D x h), List.zipIdx_append]
  simp
end
/-- Masks and how often each is in T, as cells. -/
def shV (T D : List (Nat × Nat)) : List Value := D.flatMap fun m => [.int .u64 (m.1 : Int), .int .u64 (m.2 : Int), .int .i64 ((T.count m : Nat) : Int)]
theorem shV_len (T D : List (Nat × Nat)) : (shV T D).length = D.length * 3 := by
  unfold shV
  induction D with
  | nil => rfl
  | cons m D ih => simp only [List.flatMap_cons, List.length_append, ih, List.length_cons, List.length_nil]; omega
theorem shV_app (T D E : List (Nat × Nat)) : shV T (D ++ E) = shV T D ++ shV T E := by unfold shV; rw [List.flatMap_append]
theorem shV_not (T D : List (Nat × Nat)) (x : Nat × Nat) (h : x ∉ D) : shV (T ++ [x]) D = shV T D := by
  induction D with
  | nil => rfl
  | cons m D ih =>
    have hc : ∀ T, shV T (m :: D) = .int .u64 (m.1 : Int) :: .int .u64 (m.2 : Int) :: .int .i64 ((T.count m : Nat) : Int) :: shV T D := fun T => by simp [shV]
    have hne : m ≠ x := fun e => h (e ▸ List.mem_cons_self)
    have hb : (x == m) = false := by simpa using Ne.symm hne
    rw [hc, hc, ih (fun hx => h (List.mem_cons_of_mem _ hx)), List.count_append, List.count_singleton, hb]
    simp
theorem sh_cell (T D : List (Nat × Nat)) (x : Nat × Nat) (j : Nat) (hj : D[j]? = some x) : (shV T D)[j * 3 + 2]? = some (.int .i64 ((T.count x : Nat) : Int)) ∧ (shV T D)[j * 3]? = some (.int .u64 (x.1 : Int)) ∧ (shV T D)[j * 3 + 1]? = some (.int .u64 (x.2 : Int)) := by
  induction D generalizing j with
  | nil => cases hj
  | cons m D ih =>
    have hc : shV T (m :: D) = .int .u64 (m.1 : Int) :: .int .u64 (m.2 : Int) :: .int .i64 ((T.count m : Nat) : Int) :: shV T D := by simp [shV]
    rw [hc]
    cases j with
    | zero =>
      simp only [List.getElem?_cons_zero, Option.some.injEq] at hj
      subst hj
      exact ⟨rfl, rfl, rfl⟩
    | succ j =>
      obtain ⟨h1, h2, h3⟩ := ih j (by simpa using hj)
      refine ⟨?_, ?_, ?_⟩
      · rw [show (j + 1) * 3 + 2 = (j * 3 + 2) + 1 + 1 + 1 by omega]; simpa using h1
      · rw [show (j + 1) * 3 = (j * 3) + 1 + 1 + 1 by omega]; simpa using h2
      · rw [show (j + 1) * 3 + 1 = (j * 3 + 1) + 1 + 1 + 1 by omega]; simpa using h3
/-- One more of one of them. -/
theorem sh_more (T D : List (Nat × Nat)) (x : Nat × Nat) (j : Nat) (hn : D.Nodup) (hj : D[j]? = some x) :
    (shV T D).set (j * 3 + 2) (.int .i64 ((T.count x : Nat) + 1 : Int)) = shV (T ++ [x]) D := by
  induction D generalizing j with
  | nil => cases hj
  | cons m D ih =>
    have hc : ∀ T, shV T (m :: D) = .int .u64 (m.1 : Int) :: .int .u64 (m.2 : Int) :: .int .i64 ((T.count m : Nat) : Int) :: shV T D := fun T => by simp [shV]
    obtain ⟨h1, h2⟩ := List.nodup_cons.1 hn
    rw [hc, hc]
    cases j with
    | zero =>
      simp only [List.getElem?_cons_zero, Option.some.injEq] at hj
      subst hj
      rw [shV_not T D m h1]
      simp
    | succ j =>
      have hj' : D[j]? = some x := by simpa using hj
      have hne : m ≠ x := fun e => h1 (e ▸ List.mem_of_getElem? hj')
      have := ih j h2 hj'
      rw [show (j + 1) * 3 + 2 = (j * 3 + 2) + 1 + 1 + 1 by omega]
      have hb : (x == m) = false := by simpa using Ne.symm hne
      simp only [List.set_cons_succ, this, List.count_append, List.count_singleton, hb]
      simp
/-! ### The map's keys -/
abbrev ekM (p : Nat × Nat) : Value := .agg #[.int .u64 (p.1 : Int), .int .u64 (p.2 : Int)]
abbrev evI (n : Nat) : Value := .int .i64 (n : Int)
theorem ekM_inj : ∀ x y : Nat × Nat, ekM x = ekM y → x = y := by
  rintro ⟨a, b⟩ ⟨c, d⟩ h
  simp only [ekM, Value.agg.injEq, Array.mk.injEq, List.cons.injEq, Value.int.injEq, true_and, and_true] at h
  obtain ⟨h1, h2⟩ := h
  have e1 : a = c := by omega
  have e2 : b = d := by omega
  rw [e1, e2]
theorem keyedM : Keyed Try.prog 24 := Keyed.of_law (deep_law_laid laidOut (m := 5) (by decide) (of_decide_eq_true (by kernel_rfl)) (by kernel_rfl) (by kernel_rfl))
theorem wf_u64 (a : Nat) (h : a < 18446744073709551616) : (Lit.int .u64 (a : Int)).wf = true := WalkArith.wf_u64 ⟨by omega, by omega⟩
theorem klU64 (d : Nat) (a : Nat) (h : a < 18446744073709551616) : Try.prog.keyLits (d + 1) 22 [.int .u64 (a : Int)] = some [.int .u64 (a : Int)] := by
  have := wf_u64 a h
  unfold Program.keyLits
  simp only [Try.underlying22]
  simp only [this, and_self, if_true]
theorem klM (d a b : Nat) (ha : a < 18446744073709551616) (hb : b < 18446744073709551616) : Try.prog.keyLits (d + 1 + 1) 24 [.int .u64 (a : Int), .int .u64 (b : Int)] = some [.int .u64 (a : Int), .int .u64 (b : Int)] := by
  have hc : Try.prog.cellsOf 24 = 2 := by kernel_rfl
  have hc1 : Try.prog.cellsOf 22 = 1 := by kernel_rfl
  have h1 := klU64 d a ha
  have h2 := klU64 d b hb
  unfold Program.keyLits
  simp only [Try.underlying24, hc, hc1]
  rw [show List.range 2 = [0, 1] from rfl]
  simp only [List.length_cons, List.length_nil, Nat.zero_add, Nat.reduceAdd, if_true, List.mapM_cons, List.mapM_nil, Nat.zero_mul, Nat.one_mul, List.drop_zero, List.drop_succ_cons, List.take_succ_cons, List.take_zero, h1, h2]
  rfl
theorem keyM (a b : Nat) (ha : a < 18446744073709551616) (hb : b < 18446744073709551616) : ∃ l, keyOf Try.prog 24 (ekM (a, b)) = some l := by
  have hk : Try.prog.keyType 24 = true := by kernel_rfl
  have hc : Try.prog.cellsOf 24 = 2 := by kernel_rfl
  obtain ⟨n, hn⟩ : ∃ n, Try.prog.types.size + 1 = n + 1 + 1 := ⟨Try.prog.types.size - 1, by kernel_rfl⟩
  have h1 := klM n a b ha hb
  refine ⟨.string (keyBytes [.int .u64 (a : Int), .int .u64 (b : Int)]), ?_⟩
  unfold keyOf
  simp only [Try.underlying24, hk, ekM, Value.formed, hc, Value.cells, hn, h1]
  rfl
end Go.Proofs.Ytcgogcolfbpcfaa
