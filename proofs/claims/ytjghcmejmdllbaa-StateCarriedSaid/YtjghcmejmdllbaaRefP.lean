/- The plain law of the reference's Check over views (choragusref08): what it counts is what the program's Check asks; no condition. -/
import Derived.Test.YtjghcmejmdllbaaRef5
namespace Go.Proofs.Ytjghcmejmdllbaa
open Go.ChangeShapes Go.WideShapes Go.ChangeAt Go.RowKit Go.Maps
set_option linter.unusedVariables false
set_option linter.unusedSimpArgs false
theorem snoc_ind {α : Type} {P : List α → Prop} (h0 : P []) (h1 : ∀ l x, P l → P (l ++ [x])) (l : List α) : P l := by
  rw [← List.reverse_reverse l]
  induction l.reverse with
  | nil => exact h0
  | cons x t ih => rw [List.reverse_cons]; exact h1 _ _ ih
theorem dd_full {α : Type} [DecidableEq α] (l : List α) : (dd l).length = l.length ↔ l.Nodup := by
  refine snoc_ind (P := fun l : List α => (dd l).length = l.length ↔ l.Nodup) ?_ ?_ l
  · simp [dd, ddA]
  · intro l x ih
    have hl := dd_len l []
    rw [dd_snoc, List.nodup_append]
    by_cases h : x ∈ dd l
    · have hx := (mem_dd l x).1 h
      have : (dd l).length ≤ l.length := by simpa [dd] using hl
      simp only [if_pos h]
      constructor
      · intro e; simp at e; omega
      · rintro ⟨_, _, hd⟩; exact absurd rfl (hd x hx x (by simp))
    · have hx := fun h2 => h ((mem_dd l x).2 h2)
      simp only [if_neg h]
      constructor
      · intro e
        refine ⟨ih.1 (by simpa using e), by simp, fun a ha b hb e2 => ?_⟩
        simp at hb; subst hb e2; exact hx ha
      · rintro ⟨h1, _, _⟩
        have := ih.2 h1
        simp [this]
theorem risA_mem {m : List Pr} {d : Int} {l : List Pr} (h : risA m d l = true) : ∀ p ∈ l, ∃ k : Nat, rank m p = some k ∧ d < k := by
  induction l generalizing d with
  | nil => simp
  | cons q r ih =>
    unfold risA at h
    cases hr : rank m q with
    | none => rw [hr] at h; cases h
    | some k =>
      rw [hr] at h
      simp only [Bool.and_eq_true, decide_eq_true_eq] at h
      intro p hp
      rcases List.mem_cons.1 hp with rfl | hp
      · exact ⟨k, hr, h.1⟩
      · obtain ⟨j, h1, h2⟩ := ih h.2 p hp
        exact ⟨j, h1, by omega⟩
theorem risA_nodup {m : List Pr} {d : Int} {l : List Pr} (h : risA m d l = true) : l.Nodup := by
  induction l generalizing d with
  | nil => simp
  | cons q r ih =>
    unfold risA at h
    cases hr : rank m q with
    | none => rw [hr] at h; cases h
    | some k =>
      rw [hr] at h
      simp only [Bool.and_eq_true, decide_eq_true_eq] at h
      refine List.nodup_cons.2 ⟨fun hq => ?_, ih h.2⟩
      obtain ⟨j, h1, h2⟩ := risA_mem h.2 q hq
      rw [hr] at h1
      cases h1
      omega
theorem risB_mem {m l : List Pr} (h : risB m l = true) : ∀ p ∈ l, p ∈ m := fun p hp => by
  obtain ⟨k, h1, _⟩ := risA_mem h p hp
  obtain ⟨hk, e⟩ := rank_lt h1
  exact e ▸ List.getElem_mem hk
theorem risB_len {m l : List Pr} (h : risB m l = true) : l.length ≤ m.length := (risA_nodup h).length_le_of_subset (risB_mem h)
theorem memOk_nodup {m : List Pr} (h : memOk m = true) : m.Nodup := by
  simp only [memOk, Bool.and_eq_true, decide_eq_true_eq] at h
  exact List.Pairwise.of_map (fun x : Pr => x.1) (fun a b hn e => hn (by rw [e])) h.1.1.2
theorem lvOk_mem {m : List Pr} {ls : List (List Pr)} (h : lvOk m ls = true) : ∀ p ∈ ls.flatten, p ∈ m := fun p hp => by
  obtain ⟨l, hl, hpl⟩ := List.mem_flatten.1 hp
  have := List.all_eq_true.1 h l hl
  simp only [Bool.and_eq_true] at this
  exact risB_mem this.2 p hpl
theorem lvOk_len {m : List Pr} {ls : List (List Pr)} (h : lvOk m ls = true) : ls.length ≤ ls.flatten.length := by
  induction ls with
  | nil => simp
  | cons l ls ih =>
    simp only [lvOk, List.all_cons, Bool.and_eq_true] at h
    have := ih h.2
    have h1 : 0 < l.length := by
      cases l with
      | nil => simp at h
      | cons _ _ => simp
    simp only [List.length_cons, List.flatten_cons, List.length_append]
    omega
theorem vOk_parts {x : Vw} (h : vOk x = true) : 1 ≤ x.id ∧ x.id ≤ 4611686018427387904 ∧ memOk x.mem = true ∧ lvOk x.mem x.lvs = true ∧ x.lvs.flatten.length = x.mem.length ∧ x.lvs.flatten.Nodup ∧ risB x.mem (firsts x.lvs) = true ∧ 0 < x.ldr.length ∧ risB x.mem x.ldr = true := by
  simp only [vOk, Bool.and_eq_true, decide_eq_true_eq, dd_full] at h
  obtain ⟨⟨⟨⟨⟨⟨⟨⟨h1, h2⟩, h3⟩, h4⟩, h5⟩, h6⟩, h7⟩, h8⟩, h9⟩ := h
  refine ⟨h1, h2, h3, h4, h5, h6, h7, ?_, h9⟩
  cases hx : x.ldr with
  | nil => rw [hx] at h8; cases h8
  | cons _ _ => simp
theorem vOk_mk {x : Vw} (h1 : 1 ≤ x.id) (h2 : x.id ≤ 4611686018427387904) (h3 : memOk x.mem = true) (h4 : lvOk x.mem x.lvs = true) (h5 : x.lvs.flatten.length = x.mem.length) (h6 : x.lvs.flatten.Nodup) (h8 : 0 < x.ldr.length) : vOk x = (risB x.mem (firsts x.lvs) && risB x.mem x.ldr) := by
  have h8' : x.ldr.isEmpty = false := by
    cases hx : x.ldr with
    | nil => rw [hx] at h8; simp at h8
    | cons _ _ => rfl
  simp [vOk, h1, h2, h3, h4, h5, (dd_full _).2 h6, h8']
/-- What the reference counts. -/
theorem vOk_count {x : Vw} (h : vOk x = true) : (∀ p ∈ x.mem, x.lvs.flatten.count p = 1) ∧ x.lvs.length ≤ x.mem.length ∧ x.ldr.length ≤ x.mem.length := by
  obtain ⟨h1, h2, h3, h4, h5, h6, h7, h8, h9⟩ := vOk_parts h
  refine ⟨fun p hp => ?_, by have := lvOk_len h4; omega, risB_len h9⟩
  rw [h6.count, if_pos ?_]
  refine Classical.byContradiction fun hn => ?_
  have := (List.nodup_cons.2 ⟨hn, h6⟩).length_le_of_subset (l₂ := x.mem) (by
    intro q hq
    rcases List.mem_cons.1 hq with rfl | hq
    · exact hp
    · exact lvOk_mem h4 q hq)
  simp only [List.length_cons] at this
  omega
theorem vOk_of_count {x : Vw} (h1 : 1 ≤ x.id) (h2 : x.id ≤ 4611686018427387904) (h3 : memOk x.mem = true) (hc : ∀ p ∈ x.mem, x.lvs.flatten.count p = 1) (h4 : lvOk x.mem x.lvs = true) (h8 : 0 < x.ldr.length) : vOk x = (risB x.mem (firsts x.lvs) && risB x.mem x.ldr) := by
  have h6 : x.lvs.flatten.Nodup := List.nodup_iff_count.2 fun p => by
    by_cases hp : p ∈ x.lvs.flatten
    · rw [hc p (lvOk_mem h4 p hp)]; exact Nat.le_refl _
    · rw [List.count_eq_zero_of_not_mem hp]; exact Nat.zero_le _
  have a := h6.length_le_of_subset (lvOk_mem h4)
  have b := (memOk_nodup h3).length_le_of_subset (l₂ := x.lvs.flatten) (fun p hp => List.count_pos_iff.1 (by rw [hc p hp]; decide))
  exact vOk_mk h1 h2 h3 h4 (by omega) h6 h8
end Go.Proofs.Ytjghcmejmdllbaa
