/- Which are there, each once, in their order; no condition. -/
import Derived.Test.YtjghcmejmdllbaaMapR
namespace Go.Proofs.Ytjghcmejmdllbaa
open Go.ChangeShapes Go.WideShapes Go.ChangeAt Go.RowKit
set_option linter.unusedVariables false
set_option linter.unusedSimpArgs false
set_option linter.unusedSectionVars false
/-! ### Which are there, in their order -/
section
variable {α : Type} [DecidableEq α]
def ddA (acc l : List α) : List α := l.foldl (fun acc x => if x ∈ acc then acc else acc ++ [x]) acc
def dd (l : List α) : List α := ddA [] l
theorem dd_snoc (l : List α) (x : α) : dd (l ++ [x]) = if x ∈ dd l then dd l else dd l ++ [x] := by
  unfold dd ddA; rw [List.foldl_append]; rfl
theorem mem_ddA (l : List α) : ∀ (acc : List α) (x : α), x ∈ ddA acc l ↔ x ∈ acc ∨ x ∈ l := by
  induction l with
  | nil => intro acc x; simp [ddA]
  | cons y l ih =>
    intro acc x
    have : ddA acc (y :: l) = ddA (if y ∈ acc then acc else acc ++ [y]) l := rfl
    rw [this, ih]
    by_cases h : y ∈ acc
    · rw [if_pos h, List.mem_cons]
      constructor
      · rintro (h1 | h1)
        · exact .inl h1
        · exact .inr (.inr h1)
      · rintro (h1 | rfl | h1)
        · exact .inl h1
        · exact .inl h
        · exact .inr h1
    · rw [if_neg h]
      simp only [List.mem_append, List.mem_cons, List.not_mem_nil, or_false, or_assoc]
theorem mem_dd (l : List α) (x : α) : x ∈ dd l ↔ x ∈ l := by unfold dd; rw [mem_ddA]; simp
theorem ddA_pre (l : List α) : ∀ acc : List α, acc <+: ddA acc l := by
  induction l with
  | nil => intro acc; exact List.prefix_refl _
  | cons y l ih =>
    intro acc
    have : ddA acc (y :: l) = ddA (if y ∈ acc then acc else acc ++ [y]) l := rfl
    rw [this]
    refine List.IsPrefix.trans ?_ (ih _)
    split
    · exact List.prefix_refl _
    · exact List.prefix_append _ _
theorem dd_pre (a b : List α) : dd a <+: dd (a ++ b) := by
  unfold dd
  have : ddA [] (a ++ b) = ddA (ddA [] a) b := by unfold ddA; rw [List.foldl_append]
  rw [this]
  exact ddA_pre _ _
theorem dd_nodup (l : List α) : ∀ acc : List α, acc.Nodup → (ddA acc l).Nodup := by
  induction l with
  | nil => intro acc h; exact h
  | cons y l ih =>
    intro acc h
    have : ddA acc (y :: l) = ddA (if y ∈ acc then acc else acc ++ [y]) l := rfl
    rw [this]
    refine ih _ ?_
    split
    · exact h
    · rename_i hy
      rw [List.nodup_append]
      exact ⟨h, by simp, fun a ha b hb e => by rw [List.mem_singleton] at hb; subst hb; exact hy (e ▸ ha)⟩
theorem dd_len (l : List α) : ∀ acc : List α, (ddA acc l).length ≤ acc.length + l.length := by
  induction l with
  | nil => intro acc; simp [ddA]
  | cons y l ih =>
    intro acc
    have : ddA acc (y :: l) = ddA (if y ∈ acc then acc else acc ++ [y]) l := rfl
    rw [this]
    by_cases hy : y ∈ acc
    · rw [if_pos hy, List.length_cons]
      have := ih acc
      omega
    · rw [if_neg hy, List.length_cons]
      have := ih (acc ++ [y])
      rw [List.length_append, List.length_singleton] at this
      omega
theorem idx_none (D : List α) (x : α) (h : x ∉ D) : mget D.zipIdx x = none := by
  rw [mget_none]
  intro p hp e
  have := List.mem_zipIdx_iff_getElem?.1 hp
  exact h (e ▸ List.mem_of_getElem? this)
theorem idx_some (D : List α) (x : α) (h : x ∈ D) : ∃ j, mget D.zipIdx x = some j ∧ D[j]? = some x := by
  cases hg : mget D.zipIdx x with
  | none =>
    obtain ⟨j, hj⟩ := List.mem_iff_getElem?.1 h
    exact absurd rfl (mget_none.1 hg (x, j) (List.mem_zipIdx_iff_getElem?.2 hj))
  | some j => exact ⟨j, rfl, List.mem_zipIdx_iff_getElem?.1 (mget_mem hg)⟩
theorem idx_put (D : List α) (x : α) (h : x ∉ D) : mput D.zipIdx x D.length = (D ++ [x]).zipIdx := by
  rw [mput_new (idx_none D x h), List.zipIdx_append]
  simp
end
end Go.Proofs.Ytjghcmejmdllbaa
