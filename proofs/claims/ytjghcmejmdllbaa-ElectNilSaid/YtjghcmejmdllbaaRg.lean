/- Regions that draw their order: a stronger condition from some operation on; two resources as one that can be parted again; elements collected; no condition. -/
import Derived.Test.YtjghcmejmdllbaaBase3
namespace Go.Proofs.Ytjghcmejmdllbaa
open Go.ChangeShapes Go.WideShapes Go.ChangeAt Go.RowKit
set_option linter.unusedVariables false
set_option linter.unusedSimpArgs false
section
variable {P : Program} {ops : Array Oper} {Q : Exit → Act → World → Prop} {S S' : World → Prop}
/-- From here on more is kept. -/
theorem rg_more (hs : ∀ w, S' w → S w) : ∀ (fuel : Nat) (listed : Array Bool) (a : Act) (w : World), wpAnyH P .any ops Q S' fuel listed a w → wpAnyH P .any ops Q S fuel listed a w
  | 0, _, _, _, h => h
  | fuel + 1, _, _, _, h => ⟨h.1, fun i hi => wpOp_mono (fun a' w' h' => ⟨hs _ h'.1, rg_more hs fuel _ a' w' h'.2⟩) (h.2 i hi)⟩
theorem rg_on {fuel : Nat} {listed : Array Bool} {a : Act} {w : World} (S' : World → Prop) (hs : ∀ w, S' w → S w) (h : wpAnyH P .any ops Q S' fuel listed a w) : wpAnyH P .any ops Q S fuel listed a w := rg_more hs _ _ _ _ h
end
/-! ### Two resources as one, apart -/
def sep (r s : Res) : Res := (fun g => r.1 g ∨ s.1 g, fun w => Sound r w ∧ Sound s w ∧ ∀ g, r.1 g → ¬ s.1 g)
theorem Sound.heap {r : Res} {w1 w2 : World} (h : Sound r w1) (hb : ∀ g, r.1 g → w2.heap[g]? = w1.heap[g]?) : Sound r w2 :=
  ⟨h.loc w1 w2 hb h.here, fun g hg => by
    have h1 := h.lt g hg
    have h2 := hb g hg
    rw [Array.getElem?_eq_getElem h1] at h2
    exact (Array.getElem?_eq_some_iff.1 h2).1, h.loc⟩
theorem sep_loc (r s : Res) : Loc (sep r s) := fun w1 w2 hb h => ⟨h.1.heap (fun g hg => hb g (.inl hg)), h.2.1.heap (fun g hg => hb g (.inr hg)), h.2.2⟩
theorem St.sep {B : Nat} {w0 w : World} {L : List Res} {r s : Res} (H : St B w0 w (r :: s :: L)) : St B w0 w (sep r s :: L) := by
  have hr := H.sound r List.mem_cons_self
  have hs := H.sound s (List.mem_cons_of_mem _ List.mem_cons_self)
  obtain ⟨ha, hp⟩ := List.pairwise_cons.1 H.apart
  obtain ⟨hb, hq⟩ := List.pairwise_cons.1 hp
  refine ⟨H.below, H.size, ?_, ?_, List.pairwise_cons.2 ⟨fun x hx g hg => ?_, hq⟩⟩
  · intro x hx
    rcases List.mem_cons.1 hx with rfl | hx
    · exact ⟨⟨hr, hs, ha s List.mem_cons_self⟩, fun g hg => hg.elim (hr.lt g) (hs.lt g), sep_loc _ _⟩
    · exact H.sound x (List.mem_cons_of_mem _ (List.mem_cons_of_mem _ hx))
  · intro x hx
    rcases List.mem_cons.1 hx with rfl | hx
    · exact fun g hg => hg.elim (H.base r List.mem_cons_self g) (H.base s (List.mem_cons_of_mem _ List.mem_cons_self) g)
    · exact H.base x (List.mem_cons_of_mem _ (List.mem_cons_of_mem _ hx))
  · exact hg.elim (ha x (List.mem_cons_of_mem _ hx) g) (hb x hx g)
theorem St.part {B : Nat} {w0 w : World} {L : List Res} {r s : Res} (H : St B w0 w (Go.Proofs.Ytjghcmejmdllbaa.sep r s :: L)) : St B w0 w (r :: s :: L) := by
  obtain ⟨h1, h2, h3⟩ := (H.sound _ List.mem_cons_self).here
  have hb := H.base _ List.mem_cons_self
  obtain ⟨ha, hp⟩ := List.pairwise_cons.1 H.apart
  refine ⟨H.below, H.size, ?_, ?_, List.pairwise_cons.2 ⟨?_, List.pairwise_cons.2 ⟨fun x hx g hg => ha x hx g (.inr hg), hp⟩⟩⟩
  · intro x hx
    rcases List.mem_cons.1 hx with rfl | hx
    · exact h1
    · rcases List.mem_cons.1 hx with rfl | hx
      · exact h2
      · exact H.sound x (List.mem_cons_of_mem _ hx)
  · intro x hx g hg
    rcases List.mem_cons.1 hx with rfl | hx
    · exact hb g (.inl hg)
    · rcases List.mem_cons.1 hx with rfl | hx
      · exact hb g (.inr hg)
      · exact H.base x (List.mem_cons_of_mem _ hx) g hg
  · intro x hx g hg
    rcases List.mem_cons.1 hx with rfl | hx
    · exact h3 g hg
    · exact ha x hx g (.inl hg)
/-! ### Elements, one by one -/
theorem collect {α : Type} (P : Nat → α → Prop) : ∀ (n : Nat), (∀ i, i < n → ∃ a, P i a) → ∃ l : List α, l.length = n ∧ ∀ i (hi : i < l.length), P i l[i]
  | 0, _ => ⟨[], rfl, fun i hi => absurd hi (Nat.not_lt_zero _)⟩
  | n + 1, h => by
    obtain ⟨l, hl, hP⟩ := collect P n (fun i hi => h i (by omega))
    obtain ⟨a, ha⟩ := h n (by omega)
    refine ⟨l ++ [a], by simp [hl], fun i hi => ?_⟩
    by_cases hin : i < l.length
    · rw [List.getElem_append_left hin]; exact hP i hin
    · have : i = l.length := by simp at hi; omega
      subst this
      rw [List.getElem_append_right (Nat.le_refl _)]
      simpa [hl] using ha
end Go.Proofs.Ytjghcmejmdllbaa
